/- For every text of 2 to 200 bytes and two bytes, not both 0: laid over two bytes side by side they are told. Conditions: none but the text's reach. -/
import Derived.Test.YtgfpkhihdahjlabQCrcTwox1
import Derived.Test.YtgfpkhihdahjlabBytesRow
namespace Go.Proofs.Ytgfpkhihdahjlab.Hand
open Go Go.RowKit Go.Proofs.Ytgfpkhihdahjlab.QCrcTwo Go.Proofs.YtgfpkhihdahjlabW.PrintWords Go.Proofs.YtgfpkhihdahjlabW.PrintLast Go.Proofs.Ytgfpkhihdahjlab.Given Go.Proofs.Ytgfpkhihdahjlab.CrcThy Go.Proofs.Ytgfpkhihdahjlab.BytesRow

theorem sum_CrcTwo (s : ByteArray) (h : s.size ≤ 140737488351232) : crc_Sum.f s = some (crcI s.data.toList) := by unfold crc_Sum.f; rw [if_pos h]
theorem awake_CrcTwo : switchboardlaw06_awake.f = some true := by
  have h := crc_awake
  unfold switchboardlaw06_awake.f
  rw [sum_CrcTwo _ (by decide), sum_CrcTwo _ (by decide), sum_CrcTwo _ (by decide)]
  simp only [Option.bind_some]
  rw [if_pos h.1]
  simpa using h.2
theorem bits_u8 (b a : Nat) (hb : b < 256) (ha : a < 256) : Go.bits .xor .u8 (b : Int) (a : Int) = ((b ^^^ a : Nat) : Int) ∧ b ^^^ a < 256 := by
  have h := Nat.xor_lt_two_pow (n := 8) hb ha
  refine ⟨?_, h⟩
  show IntKind.u8.wrap (((BitVec.ofInt 8 (b : Int)) ^^^ (BitVec.ofInt 8 (a : Int))).toNat : Int) = _
  rw [BitVec.ofInt_natCast, BitVec.ofInt_natCast, BitVec.toNat_xor, BitVec.toNat_ofNat, BitVec.toNat_ofNat, Nat.mod_eq_of_lt hb, Nat.mod_eq_of_lt ha]
  simp [IntKind.wrap, IntKind.bits, IntKind.signed]
  omega
/-- What is laid over a byte, if not 0, makes another one. -/
theorem over_ne (x : UInt8) (a v : Int) (p : 0 ≤ a) (q : a ≤ 255) (hv : Go.bits .xor .u8 (x.toNat : Int) a = v) : 0 ≤ v ∧ v ≤ 255 ∧ (UInt8.ofNat v.toNat = x ↔ a = 0) := by
  obtain ⟨n, rfl⟩ := Int.eq_ofNat_of_zero_le p
  have hx := x.toNat_lt
  have k := bits_u8 x.toNat n hx (by omega)
  rw [k.1] at hv
  have k2 := k.2
  refine ⟨by omega, by omega, ?_⟩
  rw [← hv]
  constructor
  · intro e
    have e3 := congrArg UInt8.toNat e
    rw [UInt8.toNat_ofNat', Int.toNat_natCast, Nat.mod_eq_of_lt (by omega)] at e3
    have e4 : x.toNat ^^^ (x.toNat ^^^ n) = x.toNat ^^^ x.toNat := by rw [e3]
    rw [← Nat.xor_assoc, Nat.xor_self, Nat.zero_xor] at e4
    omega
  · intro e
    obtain rfl : n = 0 := by omega
    rw [Nat.xor_zero, Int.toNat_natCast, UInt8.ofNat_toNat]
/-- Two bytes side by side, at their place. -/
theorem set_split2 (l : List UInt8) (i : Nat) (y z : UInt8) (h : i + 1 < l.length) : l = l.take i ++ l[i] :: l[i + 1] :: l.drop (i + 2) ∧ (l.set i y).set (i + 1) z = l.take i ++ y :: z :: l.drop (i + 2) := by
  refine ⟨?_, ?_⟩
  · rw [List.getElem_cons_drop, List.getElem_cons_drop, List.take_append_drop]
  · obtain ⟨_, e⟩ := set_split l i y (by omega)
    rw [e, List.set_append_right _ _ (by rw [List.length_take]; omega)]
    congr 1
    rw [show i + 1 - (l.take i).length = 1 from by rw [List.length_take]; omega]
    rw [List.set_cons_succ, ← List.getElem_cons_drop h, List.set_cons_zero]
theorem sums_CrcTwo (s : ByteArray) (i : Nat) (hi : i + 1 < s.size) (b c a d v u : Int) (hb : ((s.data.toList.getD i 0).toNat : Int) = b) (hc : ((s.data.toList.getD (i + 1) 0).toNat : Int) = c) (pa : 0 ≤ a) (qa : a ≤ 255) (pd : 0 ≤ d) (qd : d ≤ 255)
    (hne : ¬ (a = 0 ∧ d = 0)) (hv : Go.bits .xor .u8 b a = v) (hu : Go.bits .xor .u8 c d = u) :
    crcI (strOfNums (((bytesOf s).set i v).set (i + 1) u)).data.toList ≠ crcI s.data.toList := by
  have hl : i + 1 < s.data.toList.length := by rw [data_length]; exact hi
  have e0 : (strOfNums (((bytesOf s).set i v).set (i + 1) u)).data.toList = (s.data.toList.set i (UInt8.ofNat v.toNat)).set (i + 1) (UInt8.ofNat u.toNat) := by
    rw [← str_set]; unfold strOfNums; simp [List.map_set]
  rw [e0]
  obtain ⟨e1, e2⟩ := set_split2 s.data.toList i (UInt8.ofNat v.toNat) (UInt8.ofNat u.toNat) hl
  rw [e2]
  conv => rhs; rw [e1]
  rw [List.getD_eq_getElem?_getD, List.getElem?_eq_getElem (by omega : i < s.data.toList.length)] at hb
  rw [List.getD_eq_getElem?_getD, List.getElem?_eq_getElem hl] at hc
  rw [← hb] at hv
  rw [← hc] at hu
  have k1 := over_ne _ a v pa qa hv
  have k2 := over_ne _ d u pd qd hu
  refine crcI_two _ _ ?_
  by_cases h : a = 0
  · exact Or.inr (fun e => hne ⟨h, k2.2.2.1 e⟩)
  · exact Or.inl (fun e => h (k1.2.2.1 e))
/-- A cell of a row that is read, written. -/
theorem reads_store {w W : World} {g n i : Nat} {xs : List Int} {v : Int} (h : ReadsInt w .u8 (some ⟨g, 0, none⟩) n xs) (hw : W = w.setCell ⟨g, i, none⟩ (.int .u8 v)) :
    ReadsInt W .u8 (some ⟨g, 0, none⟩) n (xs.set i v) := by
  obtain ⟨h1, h2, h3⟩ := h
  refine ⟨by rw [List.length_set]; exact h1, h2, fun hn => ⟨_, rfl, fun j hj => ?_⟩⟩
  obtain ⟨ad, e, hc⟩ := h3 hn
  injection e with e
  subst e
  have hcj := hc j hj
  rw [add_plain] at hcj ⊢
  rw [hw]
  by_cases e : j = i
  · subst e
    rw [World.cell?_setCell_same (h := hcj), List.getD_eq_getElem?_getD, List.getElem?_set_self (by omega)]; rfl
  · have hne : (⟨g, i, none⟩ : Addr) ≠ ⟨g, j, none⟩ := fun k => e (congrArg Addr.off k).symm
    rw [World.cell?_setCell_other (h := hne), hcj, List.getD_eq_getElem?_getD, List.getD_eq_getElem?_getD, List.getElem?_set_ne (Ne.symm e)]
set_option maxHeartbeats 1000000 in
theorem CrcTwo_walk (a0 : ByteArray) (a1 a2 a3 : Int) (w : World) (w0 : a0.size ≤ 140737488351232) (w1 : (Lit.int .u16 a1).wf = true) (w2 : (Lit.int .u8 a2).wf = true) (w3 : (Lit.int .u8 a3).wf = true) :
    Calls Try.prog 5 #[.string a0, .int .u16 a1, .int .u8 a2, .int .u8 a3] w fun e w' => e = .returned (.bool true) ∧ Below w.heap.size w w' := by
  have AW := Aside0.mk awake_CrcTwo
  obtain ⟨p1, q1⟩ := wf_in w1 (m := 0) (n := 65535) rfl rfl
  obtain ⟨p2, q2⟩ := wf_in w2 (m := 0) (n := 255) rfl rfl
  obtain ⟨p3, q3⟩ := wf_in w3 (m := 0) (n := 255) rfl rfl
  clear w1 w2 w3
  by_cases h0 : a0.size < 2
  · have h0' : decide ((a0.size : Int) < 2) = true := decide_eq_true (by omega)
    clear h0
    go_enter Try.func5, Try.ntmps5
    go_wp2_with (go_at_call 15; refine (switchboardlaw06_awake.calls true _ AW.out).mono ?_; rintro e w' ⟨rfl, hb⟩)
    go_ret
    exact ⟨rfl, hb⟩
  · have h0' : decide ((a0.size : Int) < 2) = false := decide_eq_false (by omega)
    by_cases h1 : 200 < a0.size
    · have h1' : decide (200 < (a0.size : Int)) = true := decide_eq_true (by omega)
      go_enter Try.func5, Try.ntmps5
      go_wp2_with (go_at_call 15; refine (switchboardlaw06_awake.calls true _ AW.out).mono ?_; rintro e w' ⟨rfl, hb⟩)
      go_ret
      exact ⟨rfl, hb⟩
    · have h1' : decide (200 < (a0.size : Int)) = false := decide_eq_false (by omega)
      by_cases hz : a2 = 0 ∧ a3 = 0
      · obtain ⟨rfl, rfl⟩ := hz
        go_enter Try.func5, Try.ntmps5
        go_wp2_with (go_at_call 15; refine (switchboardlaw06_awake.calls true _ AW.out).mono ?_; rintro e w' ⟨rfl, hb⟩)
        go_ret
        exact ⟨rfl, hb⟩
      · have kb := fun W => print_bytes (P := Try.prog) 9 26 5 Try.underlying9 Try.underlying26 Try.underlying5 a0 W
        have HZ := Aside0.mk hz
        have hzb : ((a2 == 0) && (a3 == 0)) = false := by
          rw [Bool.and_eq_false_iff, beq_eq_false_iff_ne, beq_eq_false_iff_ne]; omega
        clear hz
        obtain ⟨i, hi, hlt⟩ : ∃ i : Nat, a1 % ((a0.size : Int) - 1) = i ∧ i + 1 < a0.size := ⟨(a1 % ((a0.size : Int) - 1)).toNat, by have := Int.emod_nonneg a1 (b := (a0.size : Int) - 1) (by omega); omega, by have := Int.emod_lt_of_pos a1 (b := (a0.size : Int) - 1) (by omega); omega⟩
        have hs0 : ¬ ((a0.size : Int) - 1 = 0) := by omega
        have hcase : ((a2 == 0) = true ∧ (a3 == 0) = false) ∨ (a2 == 0) = false := by
          by_cases h : a2 = 0
          · exact Or.inl ⟨beq_iff_eq.2 h, beq_eq_false_iff_ne.2 (fun k => HZ.out ⟨h, k⟩)⟩
          · exact Or.inr (beq_eq_false_iff_ne.2 h)
        clear hzb
        go_enter Try.func5, Try.ntmps5
        rcases hcase with ⟨z2, z3⟩ | z2
        all_goals
          go_upto_region 5 with (fail)
          have hcell := Lib.bytesWorld_cell w 5 a0 i (by omega)
          have hfr := bytes_frozen w 5 a0 i (by omega)
          have hcell2 := Lib.bytesWorld_cell w 5 a0 (i + 1) hlt
          have hfr2 := bytes_frozen w 5 a0 (i + 1) hlt
          obtain ⟨b, hbe, hb0, hb1⟩ : ∃ b : Int, Aside0 (((a0.data.toList.getD i 0).toNat : Int) = b) ∧ 0 ≤ b ∧ b ≤ 255 := ⟨_, ⟨rfl⟩, by omega, by have := (a0.data.toList.getD i 0).toNat_lt; omega⟩
          obtain ⟨c, hce, hc0, hc1⟩ : ∃ b : Int, Aside0 (((a0.data.toList.getD (i + 1) 0).toNat : Int) = b) ∧ 0 ≤ b ∧ b ≤ 255 := ⟨_, ⟨rfl⟩, by omega, by have := (a0.data.toList.getD (i + 1) 0).toNat_lt; omega⟩
          rw [hbe.out] at hcell
          rw [hce.out] at hcell2
          have hB := bytes_below (Below.refl w.heap.size w) (Nat.le_refl _) 5 a0
          have hall : Aside0 (∀ k, k < a0.size → (Lib.bytesWorld w 5 a0).cell? ⟨w.heap.size, k, none⟩ = some (.int .u8 (a0.data.toList.getD k 0).toNat)) := ⟨fun k hk => Lib.bytesWorld_cell w 5 a0 k hk⟩
          generalize Lib.bytesWorld w 5 a0 = wo at hcell hfr hcell2 hfr2 hB hall
          have HB := Aside0.mk hB
          clear hB kb
          have e1 : ((i : Int) + 1).toNat = i + 1 := by omega
          go_upto_region 7 with (fail)
          obtain ⟨v, HV⟩ : ∃ v : Int, Aside0 (Go.bits .xor .u8 b a2 = v) := ⟨_, ⟨rfl⟩⟩
          obtain ⟨u, HU⟩ : ∃ u : Int, Aside0 (Go.bits .xor .u8 c a3 = u) := ⟨_, ⟨rfl⟩⟩
          rw [HV.out, HU.out]
          obtain ⟨W1, HW⟩ : ∃ W1, Aside0 (W1 = wo.setCell ⟨w.heap.size, i, none⟩ (.int .u8 v)) := ⟨_, ⟨rfl⟩⟩
          rw [← HW.out]
          obtain ⟨W2, HW2⟩ : ∃ W2, Aside0 (W2 = W1.setCell ⟨w.heap.size, i + 1, none⟩ (.int .u8 u)) := ⟨_, ⟨rfl⟩⟩
          rw [← HW2.out]
          have HR := Aside0.mk (reads_store (reads_set w0 hall.out HW.out) HW2.out)
          have HB1 := Aside0.mk (show Below w.heap.size w W2 from by rw [HW2.out, HW.out]; exact (HB.out.setCell (by simp) _).setCell (by simp) _)
          have SM := Aside0.mk (sum_CrcTwo a0 w0)
          clear HB hall hcell hfr hcell2 hfr2
          obtain ⟨n1, HN1⟩ : ∃ n : Int, Aside0 (crcI a0.data.toList = n) := ⟨_, ⟨rfl⟩⟩
          rw [HN1.out] at SM
          obtain ⟨l2, HL⟩ : ∃ l, Aside0 (strOfNums (((bytesOf a0).set i v).set (i + 1) u) = l) := ⟨_, ⟨rfl⟩⟩
          have hcv := string_of_reads (P := Try.prog) (c := grownCap w a0.size 0 5) Try.underlying26 Try.underlying5 Try.underlying9 HR.out
          rw [HL.out] at hcv
          have hl2 : Aside0 (crc_Sum.f l2 = some (crcI l2.data.toList) ∧ crcI l2.data.toList ≠ crcI a0.data.toList) := by
            refine ⟨sum_CrcTwo _ ?_, ?_⟩
            · rw [← HL.out, ← data_length]; unfold strOfNums; simp [bytesOf_length]; exact w0
            · rw [← HL.out]; exact sums_CrcTwo a0 i hlt b c a2 a3 v u hbe.out hce.out p2 q2 p3 q3 HZ.out HV.out HU.out
          obtain ⟨n2, HN2⟩ : ∃ n : Int, Aside0 (crcI l2.data.toList = n) := ⟨_, ⟨rfl⟩⟩
          have SM2 := Aside0.mk (hl2.out.1)
          rw [HN2.out] at SM2
          have hne : (n2 != n1) = true := bne_iff_ne.2 (by rw [← HN2.out, ← HN1.out]; exact hl2.out.2)
          clear hl2 HN2 HN1 HL hbe hce HV HU HW HW2 HR
          go_wp2_with (first | (go_at_call 16; (with_reducible refine (crc_Sum.calls l2 n2 _ SM2.out).mono ?_); rintro e w3 ⟨rfl, hb3⟩) | (go_at_call 16; (with_reducible refine (crc_Sum.calls a0 n1 _ SM.out).mono ?_); rintro e w5 ⟨rfl, hb5⟩) | (go_at_call 15; refine (switchboardlaw06_awake.calls true _ AW.out).mono ?_; rintro e w4 ⟨rfl, hb4⟩))
          go_ret
          exact ⟨rfl, below_step (below_step (below_step HB1.out hb3) hb5) hb4⟩
end Go.Proofs.Ytgfpkhihdahjlab.Hand
