/- For every message, place and bit: a right message's bytes with one bit turned are refused. Conditions: none but what a slice holds. -/
import Derived.Test.YtgfpkhihdahjlabBytesRow
import Derived.Test.YtgfpkhihdahjlabWireMor
namespace Go.Proofs.Ytgfpkhihdahjlab.Hand
open Go Go.RowKit Go.Proofs.Ytgfpkhihdahjlab.QWire Go.Proofs.YtgfpkhihdahjlabW.PrintWords Go.Proofs.YtgfpkhihdahjlabW.PrintLast Go.Proofs.YtgfpkhihdahjlabW.PrintMore Go.Proofs.Ytgfpkhihdahjlab.Given Go.Proofs.Ytgfpkhihdahjlab.CrcThy Go.Proofs.Ytgfpkhihdahjlab.WireThy Go.Proofs.Ytgfpkhihdahjlab.WireFun Go.Proofs.Ytgfpkhihdahjlab.WireLaw Go.Proofs.Ytgfpkhihdahjlab.BytesRow

/-- One bit of a byte turned: another byte. -/
theorem turned_WireBit : ∀ (b : Fin 256) (k : Fin 8), (Go.bits .xor .u8 (b.val : Int) (2 ^ k.val % 256)).toNat ≠ b.val ∧ (Go.bits .xor .u8 (b.val : Int) (2 ^ k.val % 256)).toNat < 256 := by decide +kernel
theorem other_WireBit (s : ByteArray) (i : Nat) (hi : i < s.size) (b a v : Int) (hb : ((s.data.toList.getD i 0).toNat : Int) = b) (p : 0 ≤ a) (hv : Go.bits .xor .u8 b (2 ^ (a % 8).toNat % 256) = v) :
    UInt8.ofNat v.toNat ≠ s.data.toList.getD i 0 := by
  intro e
  have _ := p
  have hl : i < s.data.toList.length := by rw [data_length]; exact hi
  have k := turned_WireBit ⟨(s.data.toList.getD i 0).toNat, (s.data.toList.getD i 0).toNat_lt⟩ ⟨(a % 8).toNat, by omega⟩
  simp only at k
  rw [hb, hv] at k
  have e3 := congrArg UInt8.toNat e
  rw [UInt8.toNat_ofNat', Nat.mod_eq_of_lt (by omega)] at e3
  exact k.1 e3
/-- What wire.Take answers to a right message's bytes, one of them turned: nothing, and an error. -/
theorem refused_WireBit {m0 m1 m2 m3 m4 m5 m6 m7 m8 m9 : Int} {v : List Int} (hr : RightB [m0, m1, m2, m3, m4, m5, m6, m7, m8, m9] v = true) (t : ByteArray) (ht : t.data.toList = putB [m0, m1, m2, m3, m4, m5, m6, m7, m8, m9] v) (i : Nat) (hi : i < t.size) (y : Int) (hy : UInt8.ofNat y.toNat ≠ t.data.toList.getD i 0) :
    ∃ e : Int, e ≠ 0 ∧ wire_Take.f 2000 (strOfNums ((bytesOf t).set i y)) = some (0, 0, 0, 0, 0, 0, 0, 0, 0, 0, [], e) := by
  have hv := (right_parts hr).2.2.2.2
  have hs : t.size = 52 + 4 * v.length := by rw [← data_length, ht, putB_len rfl]
  obtain ⟨n0, n1, n2, n3, n4, n5, n6, n7, n8, n9, u, e, q1, q2⟩ := take_is (strOfNums ((bytesOf t).set i y)) (by rw [str_size]; omega) 2000 (by rw [str_size]; omega)
  have hl : i < (putB [m0, m1, m2, m3, m4, m5, m6, m7, m8, m9] v).length := by rw [putB_len rfl]; omega
  have hne := take_turned (m := [m0, m1, m2, m3, m4, m5, m6, m7, m8, m9]) (v := v) rfl hl (y := UInt8.ofNat y.toNat) (by
    intro k; apply hy; rw [ht, List.getD_eq_getElem?_getD, List.getElem?_eq_getElem hl]; exact k)
  have hc := take_cases ((putB [m0, m1, m2, m3, m4, m5, m6, m7, m8, m9] v).set i (UInt8.ofNat y.toNat))
  rw [str_set, ht] at q2
  rw [q2] at hne hc
  rcases hc with hc | ⟨_, h2, h3⟩
  · exact absurd hc hne
  · have h2 : [n0, n1, n2, n3, n4, n5, n6, n7, n8, n9] = zeros := h2
    have h3 : u = [] := h3
    unfold zeros at h2
    simp only [List.cons.injEq] at h2
    obtain ⟨rfl, rfl, rfl, rfl, rfl, rfl, rfl, rfl, rfl, rfl, _⟩ := h2
    subst h3
    exact ⟨e, hne, q1⟩
set_option maxHeartbeats 2000000 in
set_option maxRecDepth 100000 in
theorem WireBit_walk (m0 m1 m2 m3 m4 m5 m6 m7 m8 m9 : Int) (A : Option Addr) (c : Nat) (v : List Int) (a1 a2 : Int) (w : World) (hr : (Kd.int .i64).C w A v.length v) (hc : v.length ≤ c) (hm : v.length ≤ 9223372036854775807) (w1 : (Lit.int .u16 a1).wf = true) (w2 : (Lit.int .u8 a2).wf = true) :
    Calls Try.prog 9 #[.agg #[.int .i64 m0, .int .i64 m1, .int .i64 m2, .int .i64 m3, .int .i64 m4, .int .i64 m5, .int .i64 m6, .int .i64 m7, .int .i64 m8, .int .i64 m9, .slice A v.length c], .int .u16 a1, .int .u8 a2] w fun e w' => e = .returned (.bool true) ∧ Below w.heap.size w w' := by
  have hu32 := Try.underlying32
  obtain ⟨p1, q1⟩ := wf_in w1 (m := 0) (n := 65535) rfl rfl
  obtain ⟨p2, q2⟩ := wf_in w2 (m := 0) (n := 255) rfl rfl
  clear w1 w2
  have AW := Aside0.mk (awake_wire 2000 (by omega))
  have HR := Aside0.mk hr
  have HC := Aside0.mk hc
  clear hr hc
  by_cases hright : RightB [m0, m1, m2, m3, m4, m5, m6, m7, m8, m9] v = true
  · obtain ⟨t, f1, f2, f3⟩ := put_yes hright (v.length + 2000) (by omega)
    have PT := Aside0.mk f1
    have HT := Aside0.mk f2
    have hv8 := (right_parts hright).2.2.2.2
    have HY := Aside0.mk hright
    clear f1 f2 hright hm
    have hs0 : ¬ ((t.size : Int) = 0) := by omega
    have he : ¬ t.toList = [] := toList_ne (by omega)
    have he2 : t.toList.isEmpty = false := by simpa using he
    obtain ⟨i, hi, hlt⟩ : ∃ i : Nat, a1 % (t.size : Int) = i ∧ i < t.size := ⟨(a1 % (t.size : Int)).toNat, by have := Int.emod_nonneg a1 (b := t.size) (by omega); omega, by have := Int.emod_lt_of_pos a1 (b := t.size) (by omega); omega⟩
    have HS := Aside0.mk f3
    have hts : t.size ≤ 140737488351232 := by omega
    clear f3
    have kb := fun W => print_bytes (P := Try.prog) 9 26 5 Try.underlying9 Try.underlying26 Try.underlying5 t W
    go_enter Try.func9, Try.ntmps9
    go_upto_region 4 with (go_at_call 19; (with_reducible refine (wire_Put.calls (v.length + 2000) m0 m1 m2 m3 m4 m5 m6 m7 m8 m9 A c v t 0 _ (Kd.C_below HR.out ((Below.refl _ _).alloc (Nat.le_refl _) _)) HC.out PT.out).mono ?_); rintro e w1 ⟨rfl, hb⟩; have HB := Aside0.mk (below_step ((Below.refl w.heap.size w).alloc (Nat.le_refl _) _) hb); clear hb)
    go_upto_region 5 with (fail)
    have hcell := Lib.bytesWorld_cell w1 5 t i hlt
    have hfr := bytes_frozen w1 5 t i hlt
    obtain ⟨b, hbe, hb0, hb1⟩ : ∃ b : Int, Aside0 (((t.data.toList.getD i 0).toNat : Int) = b) ∧ 0 ≤ b ∧ b ≤ 255 := ⟨_, ⟨rfl⟩, by omega, by have := (t.data.toList.getD i 0).toNat_lt; omega⟩
    rw [hbe.out] at hcell
    have HB1 := Aside0.mk (show Below w.heap.size w (Lib.bytesWorld w1 5 t) from below_step HB.out (bytes_below (Below.refl _ _) (Nat.le_refl _) 5 t))
    have hall : Aside0 (∀ k, k < t.size → (Lib.bytesWorld w1 5 t).cell? ⟨w1.heap.size, k, none⟩ = some (.int .u8 (t.data.toList.getD k 0).toNat)) := ⟨fun k hk => Lib.bytesWorld_cell w1 5 t k hk⟩
    have hge := Aside0.mk (below_size HB.out)
    generalize Lib.bytesWorld w1 5 t = wo at hcell hfr HB1 hall
    clear kb HB
    go_upto_region 6 with (fail)
    obtain ⟨y, HV⟩ : ∃ v : Int, Aside0 (Go.bits .xor .u8 b (2 ^ (a2 % 8).toNat % 256) = v) := ⟨_, ⟨rfl⟩⟩
    rw [HV.out]
    obtain ⟨W1, HW⟩ : ∃ W1, Aside0 (W1 = wo.setCell ⟨w1.heap.size, i, none⟩ (.int .u8 y)) := ⟨_, ⟨rfl⟩⟩
    rw [← HW.out]
    have HR1 := Aside0.mk (reads_set hts hall.out HW.out)
    have HB2 := Aside0.mk (show Below w.heap.size w W1 from by rw [HW.out]; exact HB1.out.setCell hge.out _)
    clear HB1 hall hcell hfr HR HC PT AW
    have AW := Aside0.mk (awake_wire 2000 (by omega))
    obtain ⟨l2, HL⟩ : ∃ l, Aside0 (strOfNums ((bytesOf t).set i y) = l) := ⟨_, ⟨rfl⟩⟩
    have hcv := string_of_reads (P := Try.prog) (c := grownCap w1 t.size 0 5) Try.underlying26 Try.underlying5 Try.underlying9 HR1.out
    rw [HL.out] at hcv
    obtain ⟨er, hne, TK⟩ : ∃ e : Int, (e != 0) = true ∧ Aside0 (wire_Take.f 2000 l2 = some (0, 0, 0, 0, 0, 0, 0, 0, 0, 0, [], e)) := by
      obtain ⟨e, h1, h2⟩ := refused_WireBit HY.out t HT.out i hlt y (other_WireBit t i hlt b a2 y hbe.out p2 HV.out)
      exact ⟨e, bne_iff_ne.2 h1, ⟨by rw [← HL.out]; exact h2⟩⟩
    clear HL hbe HV HY HT HS HW HR1 hge
    go_wp2_with (first | (go_at_call 22; (with_reducible refine (wire_Take.calls 2000 l2 0 0 0 0 0 0 0 0 0 0 [] er _ TK.out).mono ?_); rintro e w3 ⟨v10, rfl, hR, hb3⟩; have HB3 := Aside0.mk (below_step HB2.out hb3); obtain ⟨Ao, co, rfl⟩ := Kd.R_slice hR; simp only [List.length_nil]; clear hR hb3) | (go_at_call 18; (with_reducible refine (switchboardlaw07_awake.calls 2000 true _ AW.out).mono ?_); rintro e w4 ⟨rfl, hb4⟩))
    go_ret
    exact ⟨rfl, below_step (((HB3.out).alloc (below_size HB3.out) _)) hb4⟩
  · have PN := Aside0.mk (put_no hm hright (v.length + 2000) (by omega))
    go_enter Try.func9, Try.ntmps9
    go_wp2_with (first | (go_at_call 19; (with_reducible refine (wire_Put.calls (v.length + 2000) m0 m1 m2 m3 m4 m5 m6 m7 m8 m9 A c v ⟨#[]⟩ 1 _ (Kd.C_below HR.out ((Below.refl _ _).alloc (Nat.le_refl _) _)) HC.out PN.out).mono ?_); rintro e w1 ⟨rfl, hb⟩; have HB := Aside0.mk (below_step ((Below.refl w.heap.size w).alloc (Nat.le_refl _) _) hb); clear hb) | (go_at_call 18; (with_reducible refine (switchboardlaw07_awake.calls 2000 true _ AW.out).mono ?_); rintro e w4 ⟨rfl, hb4⟩))
    go_ret
    exact ⟨rfl, below_step HB.out hb4⟩
end Go.Proofs.Ytgfpkhihdahjlab.Hand
