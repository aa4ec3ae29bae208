/- For every two messages: right ones that are unlike have unlike bytes. Conditions: none but what a slice holds. -/
import Derived.Test.YtgfpkhihdahjlabQWirex22
import Derived.Test.YtgfpkhihdahjlabWireRefA
import Derived.Test.YtgfpkhihdahjlabWireMor
namespace Go.Proofs.Ytgfpkhihdahjlab.Hand
open Go Go.RowKit Go.Proofs.Ytgfpkhihdahjlab.QWire Go.Proofs.YtgfpkhihdahjlabW.PrintWords Go.Proofs.YtgfpkhihdahjlabW.PrintLast Go.Proofs.Ytgfpkhihdahjlab.Given Go.Proofs.Ytgfpkhihdahjlab.CrcThy Go.Proofs.Ytgfpkhihdahjlab.WireThy Go.Proofs.Ytgfpkhihdahjlab.WireFun Go.Proofs.Ytgfpkhihdahjlab.WireLaw Go.Proofs.Ytgfpkhihdahjlab.WireRef
/-- The empty text has no bytes. -/
theorem empty_WireUnlike : (⟨#[]⟩ : ByteArray).toList = [] := by unfold ByteArray.toList ByteArray.toList.loop; rfl
/-- Equal bytes: one text. -/
theorem same_WireUnlike {s t : ByteArray} (h : s.data.toList = t.data.toList) : s = t := by
  apply ByteArray.ext; exact Array.toList_inj.1 h
theorem loop_WireUnlike (s : ByteArray) (d : Nat) : ∀ (i : Nat) (r : List UInt8), i + d = s.size → ByteArray.toList.loop s i r = r.reverse ++ s.data.toList.drop i := by
  have hs : s.data.toList.length = s.size := by rw [Array.length_toList]; rfl
  induction d with
  | zero =>
    intro i r h; unfold ByteArray.toList.loop; rw [if_neg (by omega), List.drop_of_length_le (by omega), List.append_nil]
  | succ d ih =>
    intro i r h
    have hlt : i < s.data.toList.length := by omega
    unfold ByteArray.toList.loop
    rw [if_pos (by omega), ih _ _ (by omega), List.reverse_cons, List.append_assoc, List.drop_eq_getElem_cons hlt]
    congr 1
    have : s.get! i = s.data.toList[i] := by
      show s.data[i]! = _
      rw [getElem!_pos s.data i (by rw [← Array.length_toList]; exact hlt)]; rfl
    rw [this]; rfl
theorem bytes_WireUnlike (s : ByteArray) : s.toList = s.data.toList := by
  unfold ByteArray.toList
  rw [loop_WireUnlike s s.size 0 [] (by omega)]; rfl
theorem pure_WireUnlike (m0 m1 m2 m3 m4 m5 m6 m7 m8 m9 : Int) (v : List Int) (n0 n1 n2 n3 n4 n5 n6 n7 n8 n9 : Int) (u : List Int) (hv : v.length ≤ 9223372036854775807) (hu : u.length ≤ 9223372036854775807) : ∃ k, switchboardlaw07_WireUnlike.f k m0 m1 m2 m3 m4 m5 m6 m7 m8 m9 v n0 n1 n2 n3 n4 n5 n6 n7 n8 n9 u = some true := by
  refine ⟨v.length + u.length + 2000, ?_⟩
  unfold switchboardlaw07_WireUnlike.f
  by_cases hr : RightB [m0, m1, m2, m3, m4, m5, m6, m7, m8, m9] v = true
  · obtain ⟨t, p1, p2, p3⟩ := put_yes hr (v.length + u.length + 2000) (by omega)
    by_cases hs : RightB [n0, n1, n2, n3, n4, n5, n6, n7, n8, n9] u = true
    · obtain ⟨s, q1, q2, q3⟩ := put_yes hs (v.length + u.length + 2000) (by omega)
      have h5 := (right_parts hr).2.2.2.2
      have h6 := (right_parts hs).2.2.2.2
      rw [p1, Option.bind_some, q1, Option.bind_some, if_pos rfl]
      simp only [switchboardlaw07_WireUnlike.j0]
      rw [if_neg (by simp), rsame_is m0 m1 m2 m3 m4 m5 m6 m7 m8 m9 v n0 n1 n2 n3 n4 n5 n6 n7 n8 n9 u (by omega) (by omega) _ (by omega), Option.bind_some, awake_wire _ (by omega), if_pos]
      · rfl
      · rw [beq_iff_eq, Bool.eq_iff_iff, beq_iff_eq, decide_eq_true_eq]
        constructor
        · intro e
          have e2 : t.data.toList = s.data.toList := by
            rw [← bytes_WireUnlike t, ← bytes_WireUnlike s, e]
          exact put_inj rfl rfl hr hs (p2.symm.trans (e2.trans q2))
        · rintro ⟨e1, e2⟩
          have : t = s := same_WireUnlike (by rw [p2, q2, e1, e2])
          rw [this]
    · rw [p1, Option.bind_some, put_no hu hs _ (by omega), Option.bind_some, if_pos rfl]
      simp only [switchboardlaw07_WireUnlike.j0]
      rw [if_pos (by simp), if_pos trivial, if_neg (by simp), empty_WireUnlike, if_pos rfl, awake_wire _ (by omega)]; rfl
  · rw [put_no hv hr _ (by omega), Option.bind_some]
    by_cases hs : RightB [n0, n1, n2, n3, n4, n5, n6, n7, n8, n9] u = true
    · obtain ⟨s, q1, q2, q3⟩ := put_yes hs (v.length + u.length + 2000) (by omega)
      rw [q1, Option.bind_some, if_neg (by simp)]
      simp only [switchboardlaw07_WireUnlike.j0]
      rw [if_pos trivial, if_neg (by simp), empty_WireUnlike, if_pos rfl, awake_wire _ (by omega)]; rfl
    · rw [put_no hu hs _ (by omega), Option.bind_some, if_neg (by simp)]
      simp only [switchboardlaw07_WireUnlike.j0]
      rw [if_pos trivial, if_neg (by simp), empty_WireUnlike, if_pos rfl, if_neg (by simp), if_pos rfl, awake_wire _ (by omega)]; rfl
theorem WireUnlike_walk (m0 m1 m2 m3 m4 m5 m6 m7 m8 m9 : Int) (A : Option Addr) (c : Nat) (v : List Int) (n0 n1 n2 n3 n4 n5 n6 n7 n8 n9 : Int) (B : Option Addr) (d : Nat) (u : List Int) (w : World) (hr : (Kd.int .i64).C w A v.length v) (hc : v.length ≤ c) (hm : v.length ≤ 9223372036854775807) (hs : (Kd.int .i64).C w B u.length u) (hd : u.length ≤ d) (hn : u.length ≤ 9223372036854775807) :
    Calls Try.prog 11 #[.agg #[.int .i64 m0, .int .i64 m1, .int .i64 m2, .int .i64 m3, .int .i64 m4, .int .i64 m5, .int .i64 m6, .int .i64 m7, .int .i64 m8, .int .i64 m9, .slice A v.length c], .agg #[.int .i64 n0, .int .i64 n1, .int .i64 n2, .int .i64 n3, .int .i64 n4, .int .i64 n5, .int .i64 n6, .int .i64 n7, .int .i64 n8, .int .i64 n9, .slice B u.length d]] w fun e w' => e = .returned (.bool true) ∧ Below w.heap.size w w' := by
  obtain ⟨k, h⟩ := pure_WireUnlike m0 m1 m2 m3 m4 m5 m6 m7 m8 m9 v n0 n1 n2 n3 n4 n5 n6 n7 n8 n9 u hm hn
  exact switchboardlaw07_WireUnlike.calls k m0 m1 m2 m3 m4 m5 m6 m7 m8 m9 A c v n0 n1 n2 n3 n4 n5 n6 n7 n8 n9 B d u true w hr hc hs hd h
end Go.Proofs.Ytgfpkhihdahjlab.Hand
