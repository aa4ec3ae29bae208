/- The row of the law ChunkBit: its walk is Hand.ChunkBit_walk. -/
import Derived.Test.YtdcojbamfchgiaaCrcThy
import Derived.Test.YtdcojbamfchgiaaWLast
import Derived.Test.YtdcojbamfchgiaaWMore
import Derived.Test.YtdcojbamfchgiaaChunkRef
import Derived.Test.YtdcojbamfchgiaaQChunkx1
import Derived.Test.YtdcojbamfchgiaaRows
import Derived.Test.YtdcojbamfchgiaaExpOpen
import Derived.WalkKit
import Derived.ProofKit
import Derived.OpenShut
import Derived.ShutString
import Derived.ChangeOld
import Derived.Below
import Derived.SizedLaws
import Derived.Test.YtdcojbamfchgiaaWSized
/- What is told of '[]byte(s)', one of its cells written, and of 'string(b)' behind it; a byte turned. -/
namespace Go.Proofs.Ytdcojbamfchgiaa.BytesRow
open Go Go.RowKit Go.Proofs.YtdcojbamfchgiaaW.PrintWords Go.Proofs.YtdcojbamfchgiaaW.PrintLast Go.Proofs.Ytdcojbamfchgiaa.Given Go.Proofs.Ytdcojbamfchgiaa.CrcThy

theorem bytes_frozen (w : World) (e : TypeId) (s : ByteArray) (j : Nat) (hj : j < s.size) : (Lib.bytesWorld w e s).frozen? ⟨w.heap.size, j, none⟩ = false := by
  have hc : (Lib.bytesCells w e s).size ≥ s.size := by
    unfold Lib.bytesCells; rw [Array.size_append, Array.size_map]; exact Nat.le_add_right _ _
  unfold World.frozen?
  rw [Lib.bytesWorld_at_new]
  simp
  omega
theorem wf_in {k : IntKind} {a m n : Int} (h : (Lit.int k a).wf = true) (hm : k.min = m) (hn : k.max = n) : m ≤ a ∧ a ≤ n := by
  have h' : (decide (k.min ≤ a) && decide (a ≤ k.max)) = true := h
  rw [Bool.and_eq_true, decide_eq_true_eq, decide_eq_true_eq, hm, hn] at h'
  exact h'
theorem loop_length (s : ByteArray) (d : Nat) : ∀ (i : Nat) (r : List UInt8), s.size - i = d → (ByteArray.toList.loop s i r).length = r.length + d := by
  induction d with
  | zero => intro i r h; unfold ByteArray.toList.loop; rw [if_neg (by omega)]; simp
  | succ d ih => intro i r h; unfold ByteArray.toList.loop; rw [if_pos (by omega), ih _ _ (by omega)]; simp; omega
theorem toList_length (s : ByteArray) : s.toList.length = s.size := by
  unfold ByteArray.toList
  rw [loop_length s s.size 0 [] (by omega)]; simp
theorem toList_nil {s : ByteArray} (h : s.size = 0) : s.toList = [] := List.eq_nil_of_length_eq_zero (by rw [toList_length]; exact h)
theorem toList_ne {s : ByteArray} (h : ¬ s.size = 0) : ¬ s.toList = [] := fun k => h (by rw [← toList_length, k]; rfl)
/-- What a walk reads in the row, one of its cells written. -/
theorem reads_set {w W : World} {g i : Nat} {s : ByteArray} {v : Int} (hs : s.size ≤ 140737488351232)
    (hall : ∀ k, k < s.size → w.cell? ⟨g, k, none⟩ = some (.int .u8 (s.data.toList.getD k 0).toNat)) (hw : W = w.setCell ⟨g, i, none⟩ (.int .u8 v)) :
    ReadsInt W .u8 (some ⟨g, 0, none⟩) s.size ((bytesOf s).set i v) := by
  refine ⟨by rw [List.length_set, bytesOf_length], by omega, fun _ => ⟨_, rfl, fun j hj => ?_⟩⟩
  have hj' : j < s.data.toList.length := by rw [data_length]; exact hj
  rw [add_plain, hw]
  by_cases e : j = i
  · subst e
    rw [World.cell?_setCell_same (h := hall j hj)]
    simp [List.getD_eq_getElem?_getD, bytesOf]
    rw [List.getElem?_set_self (by rw [List.length_map]; exact hj')]; rfl
  · have hne : (⟨g, i, none⟩ : Addr) ≠ ⟨g, j, none⟩ := fun k => e (congrArg Addr.off k).symm
    rw [World.cell?_setCell_other (h := hne), hall j hj]
    simp [List.getD_eq_getElem?_getD, bytesOf, Ne.symm e, List.getElem?_eq_getElem hj']
/-- The row's bytes, as a text. -/
theorem str_set (s : ByteArray) (i : Nat) (v : Int) : (strOfNums ((bytesOf s).set i v)).data.toList = s.data.toList.set i (UInt8.ofNat v.toNat) := by
  unfold strOfNums bytesOf
  have e : ((fun n : Int => UInt8.ofNat n.toNat) ∘ fun b : UInt8 => (b.toNat : Int)) = id := by funext b; simp
  simp [List.map_set, e]
theorem str_size (s : ByteArray) (i : Nat) (v : Int) : (strOfNums ((bytesOf s).set i v)).size = s.size := by
  rw [← data_length, str_set, List.length_set, data_length]
theorem set_split (l : List UInt8) (i : Nat) (y : UInt8) (h : i < l.length) : l = l.take i ++ l[i] :: l.drop (i + 1) ∧ l.set i y = l.take i ++ y :: l.drop (i + 1) := by
  refine ⟨?_, List.set_eq_take_append_cons_drop .. |>.trans (if_pos h)⟩
  rw [List.getElem_cons_drop h, List.take_append_drop]
end Go.Proofs.Ytdcojbamfchgiaa.BytesRow
/- A right expert's bytes, one of them turned, are refused: plain law. -/
namespace Go.Proofs.Ytdcojbamfchgiaa.Pure
open Go Go.RowKit Go.Proofs.YtdcojbamfchgiaaW.PrintWords Go.Proofs.Ytdcojbamfchgiaa.Given Go.Proofs.Ytdcojbamfchgiaa.CrcThy Go.Proofs.Ytdcojbamfchgiaa.WireThy Go.Proofs.Ytdcojbamfchgiaa.Export Go.Proofs.Ytdcojbamfchgiaa.ChunkNum Go.Proofs.Ytdcojbamfchgiaa.ChunkImp
theorem set_ne {l : List UInt8} {i : Nat} (h : i < l.length) {y : UInt8} (hy : y ≠ l[i]) : l.set i y ≠ l := fun e => by
  have := congrArg (fun m => m[i]?) e
  simp only [List.getElem?_set_self h, List.getElem?_eq_getElem h, Option.some.injEq] at this
  exact hy this
theorem imp_turned {x y : List (List Int)} {d : Int} (hr : rightX x y d = true) (i : Nat) (hi : i < (outX x y d).length) (b : UInt8) (hb : b ≠ (outX x y d)[i]) : impB ((outX x y d).set i b) = ([], [], 0, 9) := by
  have hlen := outX_len hr
  have hp := outX_parts x y d
  have hl' : ((outX x y d).set i b).length = (outX x y d).length := List.length_set ..
  obtain ⟨O, hO⟩ : ∃ O, outX x y d = O := ⟨_, rfl⟩
  rw [hO] at hlen hp hl'
  have hi' : i < O.length := by rw [← hO]; exact hi
  have hb' : b ≠ O[i] := fun e => hb (by rw [e]; congr 1; exact hO.symm)
  rw [hO]
  unfold impB
  rw [hl', if_neg (by rw [hlen]; omega), if_pos]
  intro he
  rcases Nat.lt_or_ge i (O.length - 4) with h | h
  · rw [List.drop_set_of_lt h, hp.1] at he
    have hbl : i < (O.take (O.length - 4)).length := by rw [List.length_take]; omega
    have hne : crcI (O.take (O.length - 4)) ≠ crcI ((O.set i b).take (O.length - 4)) := by
      rw [List.take_set]
      obtain ⟨s1, s2⟩ := BytesRow.set_split (O.take (O.length - 4)) i b hbl
      rw [s2]
      conv => lhs; rw [s1]
      exact crcI_one _ _ (by rw [List.getElem_take]; exact fun e => hb' e.symm)
    have := fourB_inj he
    have a1 := crcI_lo (O.take (O.length - 4)); have a2 := crcI_hi (O.take (O.length - 4))
    have b1 := crcI_lo ((O.set i b).take (O.length - 4)); have b2 := crcI_hi ((O.set i b).take (O.length - 4))
    exact hne (by omega)
  · have ht : (O.set i b).take (O.length - 4) = O.take (O.length - 4) := by rw [List.take_set, List.set_eq_of_length_le (by rw [List.length_take]; omega)]
    rw [ht, ← hp.1] at he
    have e2 : O.set i b = O := by
      rw [← List.take_append_drop (O.length - 4) (O.set i b), ht, he, List.take_append_drop]
    exact set_ne hi' hb' e2
end Go.Proofs.Ytdcojbamfchgiaa.Pure
/- For every expert, place and bit: a right expert's bytes with one bit turned are refused: the walk. -/
namespace Go.Proofs.Ytdcojbamfchgiaa.Hand
open Go Go.RowKit Go.Proofs.Ytdcojbamfchgiaa.QChunk Go.Proofs.YtdcojbamfchgiaaW.PrintWords Go.Proofs.YtdcojbamfchgiaaW.PrintLast Go.Proofs.YtdcojbamfchgiaaW.PrintMore Go.Proofs.Ytdcojbamfchgiaa.Given Go.Proofs.Ytdcojbamfchgiaa.CrcThy Go.Proofs.Ytdcojbamfchgiaa.WireThy Go.Proofs.Ytdcojbamfchgiaa.ChunkNum Go.Proofs.Ytdcojbamfchgiaa.ChunkImp Go.Proofs.Ytdcojbamfchgiaa.ChunkCut Go.Proofs.Ytdcojbamfchgiaa.ChunkTak Go.Proofs.Ytdcojbamfchgiaa.ChunkAwk Go.Proofs.Ytdcojbamfchgiaa.ChunkSame Go.Proofs.Ytdcojbamfchgiaa.BytesRow
attribute [local go_sem] max2_int min2_int max_two min_two max_three min_three max_four min_four   -- for this text's walks alone
set_option linter.unusedVariables false
set_option linter.unusedSimpArgs false

/-- One bit of a byte turned: another byte. -/
theorem turned_ChunkBit : ∀ (b : Fin 256) (k : Fin 8), (Go.bits .xor .u8 (b.val : Int) (2 ^ k.val % 256)).toNat ≠ b.val ∧ (Go.bits .xor .u8 (b.val : Int) (2 ^ k.val % 256)).toNat < 256 := by decide +kernel
theorem other_ChunkBit (s : ByteArray) (i : Nat) (hi : i < s.size) (b a v : Int) (hb : ((s.data.toList.getD i 0).toNat : Int) = b) (p : 0 ≤ a) (hv : Go.bits .xor .u8 b (2 ^ (a % 8).toNat % 256) = v) :
    UInt8.ofNat v.toNat ≠ s.data.toList.getD i 0 := by
  intro e
  have _ := p
  have hl : i < s.data.toList.length := by rw [data_length]; exact hi
  have k := turned_ChunkBit ⟨(s.data.toList.getD i 0).toNat, (s.data.toList.getD i 0).toNat_lt⟩ ⟨(a % 8).toNat, by omega⟩
  simp only at k
  rw [hb, hv] at k
  have e3 := congrArg UInt8.toNat e
  rw [UInt8.toNat_ofNat', Nat.mod_eq_of_lt (by omega)] at e3
  exact k.1 e3
/-- What chunk.Import answers to a right expert's bytes, one of them turned: nothing, and the sum's error. -/
theorem refused_ChunkBit {x y : List (List Int)} {d : Int} (hr : rightX x y d = true) (i : Nat) (hi : i < (outS x y d).size) (v : Int) (hy : UInt8.ofNat v.toNat ≠ (outS x y d).data.toList.getD i 0) :
    chunk_Import.f 2000 (strOfNums ((bytesOf (outS x y d)).set i v)) = some ([], [], 0, 9) := by
  have hs := out_small hr
  have hi' : i < (Export.outX x y d).length := by rw [← bl_out, bl_len]; exact hi
  rw [import_is _ (by rw [str_size]; omega) 2000 (by omega)]
  have e : bl (strOfNums ((bytesOf (outS x y d)).set i v)) = (Export.outX x y d).set i (UInt8.ofNat v.toNat) := by
    show (strOfNums ((bytesOf (outS x y d)).set i v)).data.toList = _
    rw [str_set]; rfl
  rw [e, Pure.imp_turned hr i hi' _ (fun k => hy (by rw [show (outS x y d).data.toList = Export.outX x y d from rfl, List.getD_eq_getElem?_getD, List.getElem?_eq_getElem hi', Option.getD_some]; exact k))]
set_option maxHeartbeats 8000000 in
set_option maxRecDepth 100000 in
theorem ChunkBit_walk (A0 : Option Addr) (c0 : Nat) (l0 : List (List Int)) (B0 : Option Addr) (e0 : Nat) (m0 : List (List Int)) (a1 a2 a3 : Int) (w : World)
    (hr0 : Kd.C (Kd.slice 3 (Kd.int .i64)) w A0 l0.length l0) (hc0 : l0.length ≤ c0) (hs0 : Kd.C (Kd.slice 3 (Kd.int .i64)) w B0 m0.length m0) (he0 : m0.length ≤ e0) (_w1 : (Lit.int .i64 a1).wf = true) (w2 : (Lit.int .u16 a2).wf = true) (w3 : (Lit.int .u8 a3).wf = true) :
    Calls Try.prog 8 #[.agg #[.slice A0 l0.length c0, .slice B0 m0.length e0], .int .i64 a1, .int .u16 a2, .int .u8 a3] w fun e w' => e = .returned (.bool true) ∧ Below w.heap.size w w' := by
  have hu24 := Try.underlying24
  obtain ⟨p1, q1⟩ := wf_in w2 (m := 0) (n := 65535) rfl rfl
  obtain ⟨p2, q2⟩ := wf_in w3 (m := 0) (n := 255) rfl rfl
  clear w2 w3
  obtain ⟨b, -, hsb⟩ := small_is l0
  obtain ⟨c, -, hsc⟩ := small_is m0
  have SB := Aside0.mk (hsb 2000 (by omega))
  have SC := Aside0.mk (hsc 2000 (by omega))
  have AW := Aside0.mk (awake_is 2000 (by omega))
  have HR := Aside0.mk hr0
  have HC := Aside0.mk hc0
  have HQ := Aside0.mk hs0
  have HE := Aside0.mk he0
  clear hr0 hc0 hs0 he0 hsb hsc
  have HB := Aside0.mk (Below.refl w.heap.size w)
  go_enter Try.func8, Try.ntmps8
  go_upto_region 1 with (first | ((with_reducible refine gate_dst (N := 4) rfl ?_); (try (refine gate_guard (by rfl) ?_; dsimp only)); refine box_event ?hg (N := 4) ?hd (cs := #[.slice A0 l0.length c0, .slice B0 m0.length e0]) (t := 24) ?hr ?_; (case hd => rfl); (case hg => rfl); (case hr => first | (go_simp; done) | (go_simp; rfl)); intro gb hg w5 hbox hb; have n0_ := Aside0.mk (below_step (by repeat (first | (with_reducible first | exact HB.out | apply below_alloc | apply pw_below_drewN | apply below_drew1) | exact HB.out)) hb); have n1_ := Aside0.mk hbox; have n2_ := Aside0.mk ((by rw [hg]; exact (below_size HB.out)) : w.heap.size ≤ gb); clear HB; have HB := n0_; have Ka := n1_; have Ga := n2_; clear n0_ n1_ n2_; clear hb hbox hg))
  (try simp only [Act.put, List.setIfInBounds_toArray, List.set_cons_zero, List.set_cons_succ])
  go_cut [24] (fun v24 wc => ∃ x : Bool, v24 = .bool x ∧ Aside0 (wc.heap[gb]? = some (.cells #[.slice A0 l0.length c0, .slice B0 m0.length e0] 24 (0, 0))) ∧ Aside0 (Below w.heap.size w wc))
  case first =>
    have hcz0 : w5.cell? ⟨gb, 0, none⟩ = some (.slice A0 l0.length c0) := (blk_cell Ka.out 0).trans rfl
    have hcz1 : w5.cell? ⟨gb, 1, none⟩ = some (.slice B0 m0.length e0) := (blk_cell Ka.out 1).trans rfl
    have hfz0 := blk_frozen Ka.out 0
    have hfz1 := blk_frozen Ka.out 1
    cases b with
    | true =>
      go_wp2_with (first | ((with_reducible refine gate_callee (f := 9) rfl ?_); refine goesL_ (some 17) rfl rfl Try.func9 (by kernel_rfl) rfl #[.slice A0 l0.length c0] rfl (by (try simp only [List.map_toArray, List.map_cons, List.map_nil]); first | done | rfl) ?_; (with_reducible refine (switchboardref03_Small.calls 2000 _ _ l0 true _ ?side1 ?side2 SB.out).mono ?_); (case side1 => repeat (first | exact (Kd.C_below HR.out (by repeat (first | (with_reducible first | exact HB.out | apply below_alloc | apply pw_below_drewN | apply below_drew1 | refine below_set ?_ Ga.out) | exact HB.out))) | (with_reducible refine Kd.C_alloc ?_ _) | (with_reducible refine Kd.C_drewN ?_ _) | (with_reducible refine Kd.C_drew ?_))); (case side2 => exact HC.out); rintro e w' ⟨rfl, ⟨nd, rfl⟩⟩; refine ⟨_, rfl, ?_⟩) | (go_at_call 9; (with_reducible refine (switchboardref03_Small.calls 2000 _ _ m0 c _ ?side1 ?side2 SC.out).mono ?_); (case side1 => repeat (first | exact (Kd.C_below HQ.out (by repeat (first | (with_reducible first | exact HB.out | apply below_alloc | apply pw_below_drewN | apply below_drew1 | refine below_set ?_ Ga.out) | exact HB.out))) | (with_reducible refine Kd.C_alloc ?_ _) | (with_reducible refine Kd.C_drewN ?_ _) | (with_reducible refine Kd.C_drew ?_))); (case side2 => exact HE.out); rintro e w' ⟨rfl, ⟨nd, rfl⟩⟩))
      go_meet
      case rel => exact ⟨!c, (by first | rfl | (simp; done) | (simp [*]; done)), ⟨(by (with_reducible repeat (first | apply blk_drewN | apply blk_drew | apply blk_alloc)); exact Ka.out)⟩, ⟨(by repeat (first | (with_reducible first | exact HB.out | apply below_alloc | apply pw_below_drewN | apply below_drew1 | refine below_set ?_ Ga.out) | exact HB.out))⟩⟩
    | false =>
      go_wp2_with (first | ((with_reducible refine gate_callee (f := 9) rfl ?_); refine goesL_ (some 17) rfl rfl Try.func9 (by kernel_rfl) rfl #[.slice A0 l0.length c0] rfl (by (try simp only [List.map_toArray, List.map_cons, List.map_nil]); first | done | rfl) ?_; (with_reducible refine (switchboardref03_Small.calls 2000 _ _ l0 false _ ?side1 ?side2 SB.out).mono ?_); (case side1 => repeat (first | exact (Kd.C_below HR.out (by repeat (first | (with_reducible first | exact HB.out | apply below_alloc | apply pw_below_drewN | apply below_drew1 | refine below_set ?_ Ga.out) | exact HB.out))) | (with_reducible refine Kd.C_alloc ?_ _) | (with_reducible refine Kd.C_drewN ?_ _) | (with_reducible refine Kd.C_drew ?_))); (case side2 => exact HC.out); rintro e w' ⟨rfl, ⟨nd, rfl⟩⟩; refine ⟨_, rfl, ?_⟩))
      go_meet
      case rel => exact ⟨true, (by first | rfl | (simp; done) | (simp [*]; done)), ⟨(by (with_reducible repeat (first | apply blk_drewN | apply blk_drew | apply blk_alloc)); exact Ka.out)⟩, ⟨(by repeat (first | (with_reducible first | exact HB.out | apply below_alloc | apply pw_below_drewN | apply below_drew1 | refine below_set ?_ Ga.out) | exact HB.out))⟩⟩
  case rest =>
    clear SB SC
    obtain ⟨x, rfl, Ka, HB⟩ := hcut
    cases x with
    | true =>
      go_wp2_with (first | ((with_reducible refine gate_callee (f := 10) rfl ?_); refine goesL_ (some 25) rfl rfl Try.func10 (by kernel_rfl) rfl #[] rfl (by (try simp only [List.map_toArray, List.map_cons, List.map_nil]); first | done | rfl) ?_; (with_reducible refine (switchboardlaw16_awake.calls 2000 true _ AW.out).mono ?_); rintro e w9 ⟨rfl, hb⟩; refine ⟨_, rfl, ?_⟩; have n1_ := Aside0.mk (below_step (by repeat (first | (with_reducible first | exact HB.out | apply below_alloc | apply pw_below_drewN | apply below_drew1 | refine below_set ?_ Ga.out) | exact HB.out)) hb); clear HB; have HB := n1_; clear n1_; clear hb))
      go_ret
      exact ⟨rfl, (by repeat (first | (with_reducible first | exact HB.out | apply below_alloc | apply pw_below_drewN | apply below_drew1 | refine below_set ?_ Ga.out) | exact HB.out))⟩
    | false =>
      have hcz0 : wc.cell? ⟨gb, 0, none⟩ = some (.slice A0 l0.length c0) := (blk_cell Ka.out 0).trans rfl
      have hcz1 : wc.cell? ⟨gb, 1, none⟩ = some (.slice B0 m0.length e0) := (blk_cell Ka.out 1).trans rfl
      have hfz0 := blk_frozen Ka.out 0
      have hfz1 := blk_frozen Ka.out 1
      cases hright : rightX l0 m0 a1 with
      | false =>
        have PT := Aside0.mk (export_no hright)
        go_wp2_with (first | ((with_reducible refine gate_callee (f := 11) rfl ?_); refine goesL_ (some 29) rfl rfl Try.func11 (by kernel_rfl) rfl #[.agg #[.slice A0 l0.length c0, .slice B0 m0.length e0], .int .i64 a1] rfl (by (try simp only [List.map_toArray, List.map_cons, List.map_nil]); first | done | rfl) ?_; (with_reducible refine (Export.chunk_Export.calls _ _ l0 _ _ m0 a1 ⟨#[]⟩ 1 _ ?side1 ?side2 ?side3 ?side4 PT.out).mono ?_); (case side1 => repeat (first | exact (Kd.C_below HR.out (by repeat (first | (with_reducible first | exact HB.out | apply below_alloc | apply pw_below_drewN | apply below_drew1 | refine below_set ?_ Ga.out) | exact HB.out))) | (with_reducible refine Kd.C_alloc ?_ _) | (with_reducible refine Kd.C_drewN ?_ _) | (with_reducible refine Kd.C_drew ?_))); (case side2 => exact HC.out); (case side3 => repeat (first | exact (Kd.C_below HQ.out (by repeat (first | (with_reducible first | exact HB.out | apply below_alloc | apply pw_below_drewN | apply below_drew1 | refine below_set ?_ Ga.out) | exact HB.out))) | (with_reducible refine Kd.C_alloc ?_ _) | (with_reducible refine Kd.C_drewN ?_ _) | (with_reducible refine Kd.C_drew ?_))); (case side4 => exact HE.out); rintro e w7 ⟨rfl, hb⟩; refine ⟨_, rfl, ?_⟩; have n0_ := Aside0.mk (blk_below (g := gb) (o := .cells #[.slice A0 l0.length c0, .slice B0 m0.length e0] 24 (0, 0)) (by (with_reducible repeat (first | apply blk_drewN | apply blk_drew | apply blk_alloc)); exact Ka.out) hb); have n1_ := Aside0.mk (below_step (by repeat (first | (with_reducible first | exact HB.out | apply below_alloc | apply pw_below_drewN | apply below_drew1 | refine below_set ?_ Ga.out) | exact HB.out)) hb); clear Ka; clear HB; have Ka := n0_; have HB := n1_; clear n0_ n1_; clear hb) | (go_at_call 10; (with_reducible refine (switchboardlaw16_awake.calls 2000 true _ AW.out).mono ?_); rintro e w9 ⟨rfl, hb⟩; have n1_ := Aside0.mk (below_step (by repeat (first | (with_reducible first | exact HB.out | apply below_alloc | apply pw_below_drewN | apply below_drew1 | refine below_set ?_ Ga.out) | exact HB.out)) hb); clear HB; have HB := n1_; clear n1_; clear hb))
        go_ret
        exact ⟨rfl, (by repeat (first | (with_reducible first | exact HB.out | apply below_alloc | apply pw_below_drewN | apply below_drew1 | refine below_set ?_ Ga.out) | exact HB.out))⟩
      | true =>
        have hsz := out_size hright
        have hsm := out_small hright
        have hpos : 0 < (outS l0 m0 a1).size := by omega
        have HY := Aside0.mk hright
        obtain ⟨t, HT⟩ : ∃ t, Aside0 (outS l0 m0 a1 = t) := ⟨_, ⟨rfl⟩⟩
        have f1 := export_yes hright
        rw [HT.out] at hpos hsm f1
        have PT := Aside0.mk f1
        clear f1 hright hsz
        have hs0 : ¬ ((t.size : Int) = 0) := by omega
        have he : ¬ t.toList = [] := toList_ne (by omega)
        have he2 : t.toList.isEmpty = false := by simpa using he
        obtain ⟨i, hi, hlt⟩ : ∃ i : Nat, a2 % (t.size : Int) = i ∧ i < t.size := ⟨(a2 % (t.size : Int)).toNat, by have := Int.emod_nonneg a2 (b := t.size) (by omega); omega, by have := Int.emod_lt_of_pos a2 (b := t.size) (by omega); omega⟩
        have hts : t.size ≤ 140737488351232 := by omega
        clear hsm
        have kb := fun W => print_bytes (P := Try.prog) 9 47 5 Try.underlying9 Try.underlying47 Try.underlying5 t W
        go_upto_region 6 with (first | ((with_reducible refine gate_callee (f := 11) rfl ?_); refine goesL_ (some 29) rfl rfl Try.func11 (by kernel_rfl) rfl #[.agg #[.slice A0 l0.length c0, .slice B0 m0.length e0], .int .i64 a1] rfl (by (try simp only [List.map_toArray, List.map_cons, List.map_nil]); first | done | rfl) ?_; (with_reducible refine (Export.chunk_Export.calls _ _ l0 _ _ m0 a1 t 0 _ ?side1 ?side2 ?side3 ?side4 PT.out).mono ?_); (case side1 => repeat (first | exact (Kd.C_below HR.out (by repeat (first | (with_reducible first | exact HB.out | apply below_alloc | apply pw_below_drewN | apply below_drew1 | refine below_set ?_ Ga.out) | exact HB.out))) | (with_reducible refine Kd.C_alloc ?_ _) | (with_reducible refine Kd.C_drewN ?_ _) | (with_reducible refine Kd.C_drew ?_))); (case side2 => exact HC.out); (case side3 => repeat (first | exact (Kd.C_below HQ.out (by repeat (first | (with_reducible first | exact HB.out | apply below_alloc | apply pw_below_drewN | apply below_drew1 | refine below_set ?_ Ga.out) | exact HB.out))) | (with_reducible refine Kd.C_alloc ?_ _) | (with_reducible refine Kd.C_drewN ?_ _) | (with_reducible refine Kd.C_drew ?_))); (case side4 => exact HE.out); rintro e w7 ⟨rfl, hb⟩; refine ⟨_, rfl, ?_⟩; have n0_ := Aside0.mk (blk_below (g := gb) (o := .cells #[.slice A0 l0.length c0, .slice B0 m0.length e0] 24 (0, 0)) (by (with_reducible repeat (first | apply blk_drewN | apply blk_drew | apply blk_alloc)); exact Ka.out) hb); have n1_ := Aside0.mk (below_step (by repeat (first | (with_reducible first | exact HB.out | apply below_alloc | apply pw_below_drewN | apply below_drew1 | refine below_set ?_ Ga.out) | exact HB.out)) hb); clear Ka; clear HB; have Ka := n0_; have HB := n1_; clear n0_ n1_; clear hb))
        go_upto_region 7 with (fail)
        have hcell := Lib.bytesWorld_cell w7 5 t i hlt
        have hfr := bytes_frozen w7 5 t i hlt
        obtain ⟨b8, hbe, hb0, hb1⟩ : ∃ b : Int, Aside0 (((t.data.toList.getD i 0).toNat : Int) = b) ∧ 0 ≤ b ∧ b ≤ 255 := ⟨_, ⟨rfl⟩, by omega, by have := (t.data.toList.getD i 0).toNat_lt; omega⟩
        rw [hbe.out] at hcell
        have HB1 := Aside0.mk (show Below w.heap.size w (Lib.bytesWorld w7 5 t) from below_step HB.out (bytes_below (Below.refl _ _) (Nat.le_refl _) 5 t))
        have hall : Aside0 (∀ k, k < t.size → (Lib.bytesWorld w7 5 t).cell? ⟨w7.heap.size, k, none⟩ = some (.int .u8 (t.data.toList.getD k 0).toNat)) := ⟨fun k hk => Lib.bytesWorld_cell w7 5 t k hk⟩
        have hge := Aside0.mk (below_size HB.out)
        generalize Lib.bytesWorld w7 5 t = wo at hcell hfr HB1 hall
        clear kb HB Ka hcz0 hcz1 hfz0 hfz1
        go_upto_region 8 with (fail)
        obtain ⟨y, HV⟩ : ∃ v : Int, Aside0 (Go.bits .xor .u8 b8 (2 ^ (a3 % 8).toNat % 256) = v) := ⟨_, ⟨rfl⟩⟩
        rw [HV.out]
        obtain ⟨W1, HW⟩ : ∃ W1, Aside0 (W1 = wo.setCell ⟨w7.heap.size, i, none⟩ (.int .u8 y)) := ⟨_, ⟨rfl⟩⟩
        rw [← HW.out]
        have HR1 := Aside0.mk (reads_set hts hall.out HW.out)
        have HB := Aside0.mk (show Below w.heap.size w W1 from by rw [HW.out]; exact HB1.out.setCell hge.out _)
        clear HB1 hall hcell hfr HR HC HQ HE PT
        obtain ⟨l2, HL⟩ : ∃ l, Aside0 (strOfNums ((bytesOf t).set i y) = l) := ⟨_, ⟨rfl⟩⟩
        have hcv := string_of_reads (P := Try.prog) (c := grownCap w7 t.size 0 5) Try.underlying47 Try.underlying5 Try.underlying9 HR1.out
        rw [HL.out] at hcv
        have TK : Aside0 (chunk_Import.f 2000 l2 = some ([], [], 0, 9)) := ⟨by
          have h2 := refused_ChunkBit HY.out i (by rw [HT.out]; exact hlt) y (by rw [HT.out]; exact other_ChunkBit t i hlt b8 a3 y hbe.out p2 HV.out)
          rw [HT.out, HL.out] at h2
          exact h2⟩
        clear HL hbe HV HY HT HW HR1 hge
        go_wp2_with (first | ((with_reducible refine gate_callee (f := 17) rfl ?_); refine goesL_ (some 65) rfl rfl Try.func17 (by kernel_rfl) rfl #[.string l2] rfl (by (try simp only [List.map_toArray, List.map_cons, List.map_nil]); first | done | rfl) ?_; (with_reducible refine (chunk_Import.calls 2000 l2 [] [] 0 9 _ TK.out).mono ?_); rintro e w8 ⟨v1, v2, rfl, ho0, ho1, hb⟩; refine ⟨_, rfl, ?_⟩; obtain ⟨Ao1, co1, eo1⟩ := Kd.S_slice ho0; subst eo1; obtain ⟨Ao2, co2, eo2⟩ := Kd.S_slice ho1; subst eo2; have n1_ := Aside0.mk (below_step (by repeat (first | (with_reducible first | exact HB.out | apply below_alloc | apply pw_below_drewN | apply below_drew1 | refine below_set ?_ Ga.out) | exact HB.out)) hb); clear HB; have HB := n1_; clear n1_; clear hb ho0 ho1) | ((with_reducible refine gate_dst (N := 12) rfl ?_); (try (refine gate_guard (by rfl) ?_; dsimp only)); refine box_event ?hg (N := 12) ?hd (cs := #[.slice none 0 0, .slice none 0 0]) (t := 24) ?hr ?_; (case hd => rfl); (case hg => rfl); (case hr => first | (go_simp; done) | (go_simp; rfl)); intro gc hg w10 hbox hb; have n1_ := Aside0.mk (below_step (by repeat (first | (with_reducible first | exact HB.out | apply below_alloc | apply pw_below_drewN | apply below_drew1 | refine below_set ?_ Ga.out) | exact HB.out)) hb); have n2_ := Aside0.mk ((by rw [hg]; exact (below_size (by repeat (first | (with_reducible first | exact HB.out | apply below_alloc | apply pw_below_drewN | apply below_drew1 | refine below_set ?_ Ga.out) | exact HB.out)))) : w.heap.size ≤ gc); clear HB; have HB := n1_; have Gb := n2_; have hcz2 : w10.cell? ⟨gc, 0, none⟩ = some (.slice none 0 0) := (blk_cell hbox 0).trans rfl; have hcz3 : w10.cell? ⟨gc, 1, none⟩ = some (.slice none 0 0) := (blk_cell hbox 1).trans rfl; have hfz2 := blk_frozen hbox 0; have hfz3 := blk_frozen hbox 1; clear n1_ n2_; clear hb hbox hg) | (go_at_call 10; (with_reducible refine (switchboardlaw16_awake.calls 2000 true _ AW.out).mono ?_); rintro e w9 ⟨rfl, hb⟩; have n1_ := Aside0.mk (below_step (by repeat (first | (with_reducible first | exact HB.out | apply below_alloc | apply pw_below_drewN | apply below_drew1 | refine below_set ?_ Ga.out | refine below_set ?_ Gb.out) | exact HB.out)) hb); clear HB; have HB := n1_; clear n1_; clear hb))
        go_ret
        exact ⟨rfl, (by repeat (first | (with_reducible first | exact HB.out | apply below_alloc | apply pw_below_drewN | apply below_drew1 | refine below_set ?_ Ga.out | refine below_set ?_ Gb.out) | exact HB.out))⟩
end Go.Proofs.Ytdcojbamfchgiaa.Hand
namespace Go.Proofs.Ytdcojbamfchgiaa.chunkBit
open Go Go.ChangeShapes Go.WideShapes Go.ChangeAt Go.RowKit
open Go.ChangeMaps (open_string shut_string)
set_option linter.unusedVariables false
theorem own : ownKnob Try.prog.godebug = none := by kernel_rfl
theorem laidOut : laidOutB Try.prog = true := by kernel_rfl
set_option maxRecDepth 100000 in
theorem lifted (os : Os) (started : os.Started) (H : Type) (enc : TypeId × Value → H) :
    ReturnsInHanded {} Try.checked os 8 .any (Rows.chunkBitSpec.pre6 enc Try.prog Try.f8 Rows.chunkBitRow.domain false) (Rows.chunkBitSpec.post enc Try.prog Try.f8 false true false false) := by
  refine returnsInHanded_of_change_sized (C := Try.checked) own started (by kernel_rfl) Try.func8
    (ChangeSpec.witness6 (enc := enc) (C := Try.checked) false ⟨#[], #[.agg #[.slice none 0 0, .slice none 0 0], .int .i64 0, .int .u16 0, .int .u8 0], []⟩ 8 (by kernel_rfl) (by kernel_rfl) (by kernel_rfl) (by kernel_rfl)) ?_
  intro W base args ds gs before hval0 hW hcnd hsz0 _
  have hsz : (DataW.weightsEach Try.prog (Try.f8.params.toList ++ Rows.chunkBitSpec.plain.varTypes Try.prog) (ds ++ gs)).all (· ≤ reachBytes) = true := hsz0
  have hval : ∀ (j : Nat) t v, Try.f8.params[j]? = some t → args[j]? = some v → Value.okWide Try.prog W .any base t v := hval0
  have hW' := hW
  obtain ⟨p, q, hA0, hV, rfl, hfz, hnd⟩ := hW
  have hA : DataW.TrodAll enc Try.prog W 0 (fun _ => true) true Try.f8.params.toList args.toList ds p := hA0
  rw [Try.params8] at hA hval hsz
  obtain ⟨v0, vs0, d0, ds0, p0, q0, hargs, rfl, rfl, h0, r0⟩ := trodAll_cons hA
  obtain ⟨v1, vs1, d1, ds1, p1, q1, rfl, rfl, rfl, h1, r1⟩ := trodAll_cons r0
  obtain ⟨v2, vs2, d2, ds2, p2, q2, rfl, rfl, rfl, h2, r2⟩ := trodAll_cons r1
  obtain ⟨v3, vs3, d3, ds3, p3, q3, rfl, rfl, rfl, h3, r3⟩ := trodAll_cons r2
  obtain ⟨rfl, rfl, rfl⟩ := trodAll_nil r3
  obtain rfl : args = #[v0, v1, v2, v3] := by cases args; simp_all
  obtain ⟨rfl, rfl⟩ := trodVars_none hV
  have k0 := h0
  have lt0 : ∀ x ∈ p0, x.block < W.heap.size := by obtain ⟨m, hm⟩ := k0; exact DataW.trod_lt m _ _ _ hm
  obtain ⟨A0, c0, l0, B0, e0, m0, rfl, hr0, hc0, hs0, he0⟩ := ExpOpen.open_exp (hval 0 24 v0 rfl rfl) h0
  obtain ⟨a1, rfl, rfl, rfl, w1⟩ := open_int Try.underlying3 (hval 1 3 v1 rfl rfl) h1
  obtain ⟨a2, rfl, rfl, rfl, w2⟩ := open_int Try.underlying46 (hval 2 46 v2 rfl rfl) h2
  obtain ⟨a3, rfl, rfl, rfl, w3⟩ := open_int Try.underlying5 (hval 3 5 v3 rfl rfl) h3
  clear hA0 hval0 hsz0 hsz
  refine (Hand.ChunkBit_walk A0 c0 l0 B0 e0 m0 a1 a2 a3 W hr0 hc0 hs0 he0 w1 w2 w3).mono fun e W' ⟨he, bel⟩ => ?_
  subst he
  exact ⟨_, rfl, _, _, _, [], _, [], hW', trodAll_mk1 (shut_bool Try.underlying4 _), (trodAll_cons_mk (Below.trod laidOut (by kernel_rfl) (of_decide_eq_true (by kernel_rfl)) k0 bel lt0) (trodAll_cons_mk (shut_int Try.underlying3 w1) (trodAll_cons_mk (shut_int Try.underlying46 w2) (trodAll_cons_mk (shut_int Try.underlying5 w3) trodAll_mk0)))), rfl, bel.frame _, fun h => by cases h⟩
theorem over : Rows.chunkBitRow.holds Try.pinned (OpenSpec.ofChange Rows.chunkBitSpec) :=
  OpenClaim.holds_of_wide 8 Try.f8 rfl rfl rfl rfl rfl rfl rfl ⟨rfl, rfl, rfl, rfl, rfl⟩ rfl rfl rfl rfl rfl (by kernel_rfl) Try.func8 (by kernel_rfl)
    (of_decide_eq_true (by kernel_rfl)) (by unfold Func.isWrapper; first | (rw [if_pos (by decide +kernel)]; kernel_rfl) | (rw [if_neg (by decide +kernel)]; exact ⟨rfl, rfl⟩))
    (fun os started H enc _ => lifted os started H enc)
theorem proved : Rows.ChunkBitSaid := over
#print axioms proved
end Go.Proofs.Ytdcojbamfchgiaa.chunkBit
namespace Go.Proofs.Ytdcojbamfchgiaa
/-- The row, under a short name, for the claim. -/
theorem chunkBit_holds : Rows.ChunkBitSaid := chunkBit.proved
end Go.Proofs.Ytdcojbamfchgiaa
