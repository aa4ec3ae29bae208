/- For every message with at most 100 numbers of Vec: it is written as the document says (the reference's bytes), or refused, and taken back. Conditions: none but what a slice holds. -/
import Derived.Test.YtgfpkhihdahjlabQWirex16
import Derived.Test.YtgfpkhihdahjlabWireRefP
import Derived.Test.YtgfpkhihdahjlabWireMor
namespace Go.Proofs.Ytgfpkhihdahjlab.Hand
open Go Go.RowKit Go.Proofs.Ytgfpkhihdahjlab.QWire Go.Proofs.YtgfpkhihdahjlabW.PrintWords Go.Proofs.YtgfpkhihdahjlabW.PrintLast Go.Proofs.Ytgfpkhihdahjlab.Given Go.Proofs.Ytgfpkhihdahjlab.CrcThy Go.Proofs.Ytgfpkhihdahjlab.WireThy Go.Proofs.Ytgfpkhihdahjlab.WireFun Go.Proofs.Ytgfpkhihdahjlab.WireLaw Go.Proofs.Ytgfpkhihdahjlab.WireRef
/-- The empty text has no bytes. -/
theorem empty_WirePuts : (⟨#[]⟩ : ByteArray).toList = [] := by unfold ByteArray.toList ByteArray.toList.loop; rfl
/-- Equal bytes: one text. -/
theorem same_WirePuts {s t : ByteArray} (h : s.data.toList = t.data.toList) : s = t := by
  apply ByteArray.ext; exact Array.toList_inj.1 h
theorem pure_WirePuts (m0 m1 m2 m3 m4 m5 m6 m7 m8 m9 : Int) (v : List Int) (hv : v.length ≤ 9223372036854775807) : ∃ k, switchboardlaw07_WirePuts.f k m0 m1 m2 m3 m4 m5 m6 m7 m8 m9 v = some true := by
  refine ⟨60000, ?_⟩
  unfold switchboardlaw07_WirePuts.f
  rw [awake_wire 60000 (by omega)]
  by_cases h : (v.length : Int) > 100
  · rw [if_pos h]; rfl
  · rw [if_neg h]
    by_cases hr : RightB [m0, m1, m2, m3, m4, m5, m6, m7, m8, m9] v = true
    · obtain ⟨t, p1, p2, p3⟩ := put_yes hr 60000 (by omega)
      have t1 := take_is t (by rw [p3]; omega) 60000 (by rw [p3]; omega)
      rw [p2, take_put rfl hr] at t1
      obtain ⟨u, q1, q2⟩ := rput_is m0 m1 m2 m3 m4 m5 m6 m7 m8 m9 v hr 60000 (by omega)
      obtain rfl := same_WirePuts (p2.trans q2.symm)
      rw [p1, Option.bind_some, rright_is m0 m1 m2 m3 m4 m5 m6 m7 m8 m9 v (by omega) 60000 (by omega), right_is m0 m1 m2 m3 m4 m5 m6 m7 m8 m9 v (by omega) 60000 (by omega), Option.bind_some, Option.bind_some, if_neg (by simp), if_pos hr, tells_ok t1, Option.bind_some, q1, Option.bind_some, if_pos rfl, if_pos rfl, rsame_is m0 m1 m2 m3 m4 m5 m6 m7 m8 m9 v m0 m1 m2 m3 m4 m5 m6 m7 m8 m9 v (by omega) (by omega) 60000 (by omega), Option.bind_some, if_pos (by simp), if_pos rfl]
      rfl
    · rw [put_no (by omega) hr 60000 (by omega), Option.bind_some, rright_is m0 m1 m2 m3 m4 m5 m6 m7 m8 m9 v (by omega) 60000 (by omega), right_is m0 m1 m2 m3 m4 m5 m6 m7 m8 m9 v (by omega) 60000 (by omega), Option.bind_some, Option.bind_some, if_neg (by simp), if_neg hr, empty_WirePuts, if_pos rfl, if_pos rfl]
      rfl
theorem WirePuts_walk (m0 m1 m2 m3 m4 m5 m6 m7 m8 m9 : Int) (A : Option Addr) (c : Nat) (v : List Int) (w : World) (hr : (Kd.int .i64).C w A v.length v) (hc : v.length ≤ c) (hm : v.length ≤ 9223372036854775807) :
    Calls Try.prog 7 #[.agg #[.int .i64 m0, .int .i64 m1, .int .i64 m2, .int .i64 m3, .int .i64 m4, .int .i64 m5, .int .i64 m6, .int .i64 m7, .int .i64 m8, .int .i64 m9, .slice A v.length c]] w fun e w' => e = .returned (.bool true) ∧ Below w.heap.size w w' := by
  obtain ⟨k, h⟩ := pure_WirePuts m0 m1 m2 m3 m4 m5 m6 m7 m8 m9 v hm
  exact switchboardlaw07_WirePuts.calls k m0 m1 m2 m3 m4 m5 m6 m7 m8 m9 A c v true w hr hc h
end Go.Proofs.Ytgfpkhihdahjlab.Hand
