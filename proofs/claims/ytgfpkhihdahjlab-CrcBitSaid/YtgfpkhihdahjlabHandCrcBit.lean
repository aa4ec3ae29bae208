/- For every text of at most 200 bytes: one bit that is turned is told, and the sum lies from 0 to 2^32 - 1. Conditions: none but the text's reach. -/
import Derived.Test.YtgfpkhihdahjlabQCrcBitx1
import Derived.Test.YtgfpkhihdahjlabBytesRow
namespace Go.Proofs.Ytgfpkhihdahjlab.Hand
open Go Go.RowKit Go.Proofs.Ytgfpkhihdahjlab.QCrcBit Go.Proofs.YtgfpkhihdahjlabW.PrintWords Go.Proofs.YtgfpkhihdahjlabW.PrintLast Go.Proofs.Ytgfpkhihdahjlab.Given Go.Proofs.Ytgfpkhihdahjlab.CrcThy Go.Proofs.Ytgfpkhihdahjlab.BytesRow

theorem sum_CrcBit (s : ByteArray) (h : s.size ≤ 140737488351232) : crc_Sum.f s = some (crcI s.data.toList) := by unfold crc_Sum.f; rw [if_pos h]
theorem awake_CrcBit : switchboardlaw06_awake.f = some true := by
  have h := crc_awake
  unfold switchboardlaw06_awake.f
  rw [sum_CrcBit _ (by decide), sum_CrcBit _ (by decide), sum_CrcBit _ (by decide)]
  simp only [Option.bind_some]
  rw [if_pos h.1]
  simpa using h.2
/-- One bit of a byte turned: another byte. -/
theorem turned : ∀ (b : Fin 256) (k : Fin 8), (Go.bits .xor .u8 (b.val : Int) (2 ^ k.val % 256)).toNat ≠ b.val ∧ (Go.bits .xor .u8 (b.val : Int) (2 ^ k.val % 256)).toNat < 256 := by decide +kernel
theorem sums_CrcBit (s : ByteArray) (i : Nat) (hi : i < s.size) (b a v : Int) (hb : ((s.data.toList.getD i 0).toNat : Int) = b) (_p : 0 ≤ a) (hv : Go.bits .xor .u8 b (2 ^ (a % 8).toNat % 256) = v) :
    crcI (strOfNums ((bytesOf s).set i v)).data.toList ≠ crcI s.data.toList := by
  have hl : i < s.data.toList.length := by rw [data_length]; exact hi
  rw [str_set]
  obtain ⟨e1, e2⟩ := set_split s.data.toList i (UInt8.ofNat v.toNat) hl
  rw [e2]
  conv => rhs; rw [e1]
  refine crcI_one _ _ (fun e => ?_)
  have hg : s.data.toList.getD i 0 = s.data.toList[i] := by rw [List.getD_eq_getElem?_getD, List.getElem?_eq_getElem hl]; rfl
  have k := turned ⟨s.data.toList[i].toNat, s.data.toList[i].toNat_lt⟩ ⟨(a % 8).toNat, by omega⟩
  simp only at k
  rw [hg] at hb
  rw [hb, hv] at k
  have e3 := congrArg UInt8.toNat e
  rw [UInt8.toNat_ofNat', Nat.mod_eq_of_lt (by omega)] at e3
  exact k.1 e3
set_option maxHeartbeats 1000000 in
theorem CrcBit_walk (a0 : ByteArray) (a1 a2 : Int) (w : World) (w0 : a0.size ≤ 140737488351232) (w1 : (Lit.int .u16 a1).wf = true) (w2 : (Lit.int .u8 a2).wf = true) :
    Calls Try.prog 4 #[.string a0, .int .u16 a1, .int .u8 a2] w fun e w' => e = .returned (.bool true) ∧ Below w.heap.size w w' := by
  have AW := Aside0.mk awake_CrcBit
  obtain ⟨p1, q1⟩ := wf_in w1 (m := 0) (n := 65535) rfl rfl
  obtain ⟨p2, q2⟩ := wf_in w2 (m := 0) (n := 255) rfl rfl
  clear w1 w2
  by_cases h0 : a0.size = 0
  · have he : a0.toList = [] := toList_nil h0
    clear h0
    go_enter Try.func4, Try.ntmps4
    go_wp2_with (go_at_call 15; refine (switchboardlaw06_awake.calls true _ AW.out).mono ?_; rintro e w' ⟨rfl, hb⟩)
    go_ret
    exact ⟨rfl, hb⟩
  · have he : ¬ a0.toList = [] := toList_ne h0
    have he2 : a0.toList.isEmpty = false := by simpa using he
    by_cases h1 : 200 < a0.size
    · have h1' : decide (200 < (a0.size : Int)) = true := decide_eq_true (by omega)
      go_enter Try.func4, Try.ntmps4
      go_wp2_with (go_at_call 15; refine (switchboardlaw06_awake.calls true _ AW.out).mono ?_; rintro e w' ⟨rfl, hb⟩)
      go_ret
      exact ⟨rfl, hb⟩
    · have kb := fun W => print_bytes (P := Try.prog) 9 26 5 Try.underlying9 Try.underlying26 Try.underlying5 a0 W
      have h1' : decide (200 < (a0.size : Int)) = false := decide_eq_false (by omega)
      obtain ⟨i, hi, hlt⟩ : ∃ i : Nat, a1 % (a0.size : Int) = i ∧ i < a0.size := ⟨(a1 % (a0.size : Int)).toNat, by have := Int.emod_nonneg a1 (b := a0.size) (by omega); omega, by have := Int.emod_lt_of_pos a1 (b := a0.size) (by omega); omega⟩
      have hs0 : ¬ ((a0.size : Int) = 0) := by omega
      go_enter Try.func4, Try.ntmps4
      go_upto_region 4 with (fail)
      have hcell := Lib.bytesWorld_cell w 5 a0 i hlt
      have hfr := bytes_frozen w 5 a0 i hlt
      obtain ⟨b, hbe, hb0, hb1⟩ : ∃ b : Int, Aside0 (((a0.data.toList.getD i 0).toNat : Int) = b) ∧ 0 ≤ b ∧ b ≤ 255 := ⟨_, ⟨rfl⟩, by omega, by have := (a0.data.toList.getD i 0).toNat_lt; omega⟩
      rw [hbe.out] at hcell
      have hB := bytes_below (Below.refl w.heap.size w) (Nat.le_refl _) 5 a0
      have hall : Aside0 (∀ k, k < a0.size → (Lib.bytesWorld w 5 a0).cell? ⟨w.heap.size, k, none⟩ = some (.int .u8 (a0.data.toList.getD k 0).toNat)) := ⟨fun k hk => Lib.bytesWorld_cell w 5 a0 k hk⟩
      generalize Lib.bytesWorld w 5 a0 = wo at hcell hfr hB hall
      have HB := Aside0.mk hB
      clear hB kb
      go_upto_region 5 with (fail)
      obtain ⟨v, HV⟩ : ∃ v : Int, Aside0 (Go.bits .xor .u8 b (2 ^ (a2 % 8).toNat % 256) = v) := ⟨_, ⟨rfl⟩⟩
      rw [HV.out]
      obtain ⟨W1, HW⟩ : ∃ W1, Aside0 (W1 = wo.setCell ⟨w.heap.size, i, none⟩ (.int .u8 v)) := ⟨_, ⟨rfl⟩⟩
      rw [← HW.out]
      have HR := Aside0.mk (reads_set w0 hall.out HW.out)
      have HB1 := Aside0.mk (show Below w.heap.size w W1 from by rw [HW.out]; exact HB.out.setCell (by simp) _)
      have SM := Aside0.mk (sum_CrcBit a0 w0)
      clear HB hall hcell hfr
      obtain ⟨n1, HN1⟩ : ∃ n : Int, Aside0 (crcI a0.data.toList = n) := ⟨_, ⟨rfl⟩⟩
      rw [HN1.out] at SM
      go_upto_region 6 with (go_at_call 16; refine (crc_Sum.calls a0 n1 _ SM.out).mono ?_; rintro e w2 ⟨rfl, hb⟩)
      have HR2 := Aside0.mk (HR.out.below hb)
      have HB2 := Aside0.mk (below_step HB1.out hb)
      clear hb HR HB1 HW SM
      obtain ⟨l2, HL⟩ : ∃ l, Aside0 (strOfNums ((bytesOf a0).set i v) = l) := ⟨_, ⟨rfl⟩⟩
      have hcv := string_of_reads (P := Try.prog) (c := grownCap w a0.size 0 5) Try.underlying26 Try.underlying5 Try.underlying9 HR2.out
      rw [HL.out] at hcv
      have hl2 : Aside0 (crc_Sum.f l2 = some (crcI l2.data.toList) ∧ crcI l2.data.toList ≠ crcI a0.data.toList) := by
        refine ⟨sum_CrcBit _ ?_, ?_⟩
        · rw [← HL.out, str_size]; exact w0
        · rw [← HL.out]; exact sums_CrcBit a0 i hlt b a2 v hbe.out p2 HV.out
      obtain ⟨n2, HN2⟩ : ∃ n : Int, Aside0 (crcI l2.data.toList = n) := ⟨_, ⟨rfl⟩⟩
      have SM2 := Aside0.mk (hl2.out.1)
      rw [HN2.out] at SM2
      have hne : (n2 != n1) = true := bne_iff_ne.2 (by rw [← HN2.out, ← HN1.out]; exact hl2.out.2)
      have hlo : decide (0 ≤ n1) = true := decide_eq_true (by rw [← HN1.out]; exact crcI_lo _)
      have hhi : decide (n1 < 4294967296) = true := decide_eq_true (by rw [← HN1.out]; exact crcI_hi _)
      clear hl2 HN2 HN1 HL hbe HV
      go_wp2_with (first | (go_at_call 16; refine (crc_Sum.calls l2 n2 _ SM2.out).mono ?_; rintro e w3 ⟨rfl, hb3⟩) | (go_at_call 15; refine (switchboardlaw06_awake.calls true _ AW.out).mono ?_; rintro e w4 ⟨rfl, hb4⟩))
      go_ret
      exact ⟨rfl, below_step (below_step HB2.out hb3) hb4⟩
end Go.Proofs.Ytgfpkhihdahjlab.Hand
