/- For every message, number and text: a right message has 52 bytes, and four for each number of Vec; no beginning of its bytes is one, nor what has up to 20 bytes more behind. Conditions: none but what a slice and a text hold. -/
import Derived.Test.YtgfpkhihdahjlabQWirex21
import Derived.Test.YtgfpkhihdahjlabWireMor
namespace Go.Proofs.Ytgfpkhihdahjlab.Hand
open Go Go.RowKit Go.Proofs.Ytgfpkhihdahjlab.QWire Go.Proofs.YtgfpkhihdahjlabW.PrintWords Go.Proofs.YtgfpkhihdahjlabW.PrintLast Go.Proofs.Ytgfpkhihdahjlab.Given Go.Proofs.Ytgfpkhihdahjlab.CrcThy Go.Proofs.Ytgfpkhihdahjlab.WireThy Go.Proofs.Ytgfpkhihdahjlab.WireFun Go.Proofs.Ytgfpkhihdahjlab.WireLaw
/-- The empty text has no bytes. -/
theorem empty_WireSizes : (⟨#[]⟩ : ByteArray).toList = [] := by unfold ByteArray.toList ByteArray.toList.loop; rfl
/-- Equal bytes: one text. -/
theorem same_WireSizes {s t : ByteArray} (h : s.data.toList = t.data.toList) : s = t := by
  apply ByteArray.ext; exact Array.toList_inj.1 h
theorem loop_WireSizes (s : ByteArray) (d : Nat) : ∀ (i : Nat) (r : List UInt8), s.size - i = d → (ByteArray.toList.loop s i r).length = r.length + d := by
  induction d with
  | zero => intro i r h; unfold ByteArray.toList.loop; rw [if_neg (by omega)]; simp
  | succ d ih => intro i r h; unfold ByteArray.toList.loop; rw [if_pos (by omega), ih _ _ (by omega)]; simp; omega
theorem len_WireSizes (s : ByteArray) : s.toList.length = s.size := by
  unfold ByteArray.toList
  rw [loop_WireSizes s s.size 0 [] (by omega)]; simp
theorem ne_WireSizes {s : ByteArray} (h : ¬ s.size = 0) : ¬ s.toList = [] := fun k => h (by rw [← len_WireSizes, k]; rfl)
theorem pure_WireSizes (m0 m1 m2 m3 m4 m5 m6 m7 m8 m9 : Int) (v : List Int) (a : Int) (z : ByteArray) (hv : v.length ≤ 9223372036854775807) (ha : (Lit.int .u16 a).wf = true) : ∃ k, switchboardlaw07_WireSizes.f k m0 m1 m2 m3 m4 m5 m6 m7 m8 m9 v a z = some true := by
  have ha : 0 ≤ a ∧ a ≤ 65535 := by
    have h' : (decide (IntKind.u16.min ≤ a) && decide (a ≤ IntKind.u16.max)) = true := ha
    rw [Bool.and_eq_true, decide_eq_true_eq, decide_eq_true_eq] at h'
    exact h'
  refine ⟨v.length + 2000, ?_⟩
  unfold switchboardlaw07_WireSizes.f
  by_cases hr : RightB [m0, m1, m2, m3, m4, m5, m6, m7, m8, m9] v = true
  · obtain ⟨t, p1, p2, p3⟩ := put_yes hr (v.length + 2000) (by omega)
    have h5 := (right_parts hr).2.2.2.2
    rw [p1, Option.bind_some, if_pos rfl]
    by_cases hz : (z.size : Int) > 20
    · rw [if_pos hz]
      simp only [switchboardlaw07_WireSizes.j0]
      rw [if_pos trivial, if_neg (by omega), if_pos hz, awake_wire _ (by omega)]; rfl
    · rw [if_neg hz]
      have hne : (t.toList == ([] : List UInt8)) = false := by
        rw [beq_eq_false_iff_ne]; exact ne_WireSizes (by omega)
      rw [hne]
      simp only [switchboardlaw07_WireSizes.j0]
      have w1 : wrap64 a = a := by unfold wrap64; omega
      have w2 : wrap64 (4 * (v.length : Int)) = 4 * (v.length : Int) := by unfold wrap64; omega
      have w3 : wrap64 (52 + 4 * (v.length : Int)) = 52 + 4 * (v.length : Int) := by unfold wrap64; omega
      have e1 : Int.tmod a (t.size : Int) = a % (t.size : Int) := Int.tmod_eq_emod_of_nonneg ha.1
      have e2 := Int.emod_nonneg a (b := (t.size : Int)) (by omega)
      have e3 := Int.emod_lt_of_pos a (b := (t.size : Int)) (by omega)
      rw [if_neg (by simp), if_neg (by omega), w1, e1, if_pos e2, if_pos (by omega)]
      have hx : (t.extract 0 (a % (t.size : Int)).toNat).data.toList = (putB [m0, m1, m2, m3, m4, m5, m6, m7, m8, m9] v).take (a % (t.size : Int)).toNat := by
        rw [extract_bytes, p2, List.drop_zero, Nat.sub_zero]
      have hxs : (t.extract 0 (a % (t.size : Int)).toNat).size ≤ t.size := by rw [ByteArray.size_extract]; omega
      obtain ⟨n0, n1, n2, n3, n4, n5, n6, n7, n8, n9, u, e, q1, q2⟩ := take_is (t.extract 0 (a % (t.size : Int)).toNat) (by omega) (v.length + 1999) (by omega)
      have b1 := take_begin (m := [m0, m1, m2, m3, m4, m5, m6, m7, m8, m9]) rfl h5 (a % (t.size : Int)).toNat (by rw [putB_len rfl]; omega)
      rw [← hx, q2] at b1
      have b1 : e = 2 := b1
      subst b1
      have hy : (t ++ z).data.toList = putB [m0, m1, m2, m3, m4, m5, m6, m7, m8, m9] v ++ z.data.toList := by rw [ByteArray.data_append, Array.toList_append, p2]
      have hys : (t ++ z).size = t.size + z.size := ByteArray.size_append
      obtain ⟨k0, k1, k2, k3, k4, k5, k6, k7, k8, k9, y, g, r1, r2⟩ := take_is (t ++ z) (by omega) (v.length + 1999) (by omega)
      rw [q1, Option.bind_some, if_pos (by omega), r1, Option.bind_some, w2, w3, if_pos (by omega), if_pos rfl, awake_wire _ (by omega)]
      have hg : ((g == 0) == (z.toList == ([] : List UInt8))) = true := by
        by_cases h0 : z.size = 0
        · have hz0 : z.data.toList = [] := List.eq_nil_of_length_eq_zero (by rw [data_length]; exact h0)
          have hzl : z.toList = [] := List.eq_nil_of_length_eq_zero (by rw [len_WireSizes]; exact h0)
          rw [hy, hz0, List.append_nil, take_put rfl hr] at r2
          simp only [Prod.mk.injEq] at r2
          rw [hzl, ← r2.2.2]; rfl
        · have hz0 : z.data.toList ≠ [] := fun k => h0 (by rw [← data_length, k]; rfl)
          have b2 := take_more (m := [m0, m1, m2, m3, m4, m5, m6, m7, m8, m9]) rfl h5 z.data.toList hz0
          rw [← hy, r2] at b2
          have b2 : g = 2 := b2
          subst b2
          rw [beq_eq_false_iff_ne.2 (ne_WireSizes h0)]; rfl
      rw [if_pos hg]; rfl
  · rw [put_no hv hr _ (by omega), Option.bind_some, if_neg (by simp)]
    simp only [switchboardlaw07_WireSizes.j0]
    rw [if_pos trivial, if_pos trivial, awake_wire _ (by omega)]; rfl
theorem WireSizes_walk (m0 m1 m2 m3 m4 m5 m6 m7 m8 m9 : Int) (A : Option Addr) (c : Nat) (v : List Int) (a : Int) (z : ByteArray) (w : World) (hr : (Kd.int .i64).C w A v.length v) (hc : v.length ≤ c) (hm : v.length ≤ 9223372036854775807) (ha : (Lit.int .u16 a).wf = true) (_hz : z.size ≤ 140737488351232) :
    Calls Try.prog 10 #[.agg #[.int .i64 m0, .int .i64 m1, .int .i64 m2, .int .i64 m3, .int .i64 m4, .int .i64 m5, .int .i64 m6, .int .i64 m7, .int .i64 m8, .int .i64 m9, .slice A v.length c], .int .u16 a, .string z] w fun e w' => e = .returned (.bool true) ∧ Below w.heap.size w w' := by
  obtain ⟨k, h⟩ := pure_WireSizes m0 m1 m2 m3 m4 m5 m6 m7 m8 m9 v a z hm ha
  exact switchboardlaw07_WireSizes.calls k m0 m1 m2 m3 m4 m5 m6 m7 m8 m9 A c v a z true w hr hc h
end Go.Proofs.Ytgfpkhihdahjlab.Hand
