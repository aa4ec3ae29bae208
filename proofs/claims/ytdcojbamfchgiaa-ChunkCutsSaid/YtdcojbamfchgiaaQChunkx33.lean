-- Printed by a program of this session's own (wip/gen), which turns the kit's printer; not one of the kit's printed texts.
import Derived.Test.YtdcojbamfchgiaaQChunkx0
import Derived.Test.YtdcojbamfchgiaaQChunkx8
import Derived.Test.YtdcojbamfchgiaaQChunkx16
namespace Go.Proofs.Ytdcojbamfchgiaa.QChunk
open Go.RowKit Go.Proofs.Ytdcojbamfchgiaa.Given Go.Proofs.Ytdcojbamfchgiaa.Right Go.Proofs.Ytdcojbamfchgiaa.RExpert Go.Proofs.Ytdcojbamfchgiaa.Export Go.Proofs.Ytdcojbamfchgiaa.Join Go.Proofs.YtdcojbamfchgiaaW.PrintWords Go.Proofs.YtdcojbamfchgiaaW.PrintLast Go.Proofs.YtdcojbamfchgiaaW.PrintMore
attribute [local go_sem] max2_int min2_int max_two min_two max_three min_three max_four min_four   -- for this text's walks alone
set_option linter.unusedVariables false
set_option linter.unusedSimpArgs false
noncomputable section

/-! ### switchboardlaw16_ChunkCuts: function 7 -/
def switchboardlaw16_ChunkCuts.l0 : Nat → ByteArray → Int → List ByteArray → Bool → List ByteArray → Int → Int → Option (Bool)
  | 0, _, _, _, _, _, _, _ => none
  | k + 1, x0, x5, x6, x7, x24, x25, x26 => if x26 < x25 then (if 0 ≤ x26 then (if x26 < (x24.length : Int) then (if ((rdOf ByteArray.empty x24 x26).size : Int) > x5 then (some false) else (if (rdOf ByteArray.empty x24 x26).toList = ([] : List UInt8) then (some false) else (if x26 < (wrap64 ((x6.length : Int) - 1)) then (if ((rdOf ByteArray.empty x24 x26).size : Int) = x5 then (switchboardlaw16_ChunkCuts.l0 k x0 x5 x6 x7 x24 x25 (wrap64 (x26 + 1))) else (some false)) else (switchboardlaw16_ChunkCuts.l0 k x0 x5 x6 x7 x24 x25 (wrap64 (x26 + 1)))))) else (none)) else (none)) else (if x7 = true then ((chunk_Join.f x6).bind fun t309 => (if t309.toList = x0.toList then ((switchboardlaw16_awake.f k).bind fun t310 => (some t310)) else (some false))) else (some false))
def switchboardlaw16_ChunkCuts.f (k : Nat) (a0 : ByteArray) (a1 : Int) : Option (Bool) := if (a0.size : Int) > 600 then ((switchboardlaw16_awake.f k).bind fun t303 => (some t303)) else ((chunk_Cut.f k a0 (wrap64 (1 + (wrap64 (Int.tmod a1 64))))).bind fun bt304 => (switchboardlaw16_ChunkCuts.l0 k a0 (wrap64 (1 + (wrap64 (Int.tmod a1 64)))) bt304.1 bt304.2 bt304.1 (bt304.1.length : Int) 0))
theorem switchboardlaw16_ChunkCuts.mono_l : ∀ k, (∀ y0 y1 y2 y3 y4 y5 y6, LeO (switchboardlaw16_ChunkCuts.l0 k y0 y1 y2 y3 y4 y5 y6) (switchboardlaw16_ChunkCuts.l0 (k + 1) y0 y1 y2 y3 y4 y5 y6))
  | 0 => fun _ _ _ _ _ _ _ r h => by simp [switchboardlaw16_ChunkCuts.l0] at h
  | k + 1 => by
    have ih0 := switchboardlaw16_ChunkCuts.mono_l k
    · intro y0 y1 y2 y3 y4 y5 y6
      unfold switchboardlaw16_ChunkCuts.l0
      repeat' first
      | (with_reducible exact ih0 _ _ _ _ _ _ _)
      | (with_reducible exact chunk_Cut.mono _ _ _)
      | (with_reducible exact switchboardlaw16_awake.mono _)
      | (with_reducible exact LeO.refl _)
      | (with_reducible exact LeO.none _)
      | (with_reducible refine LeO.ite ?_ ?_)
      | (with_reducible refine LeO.bind ?_ (fun _ => ?_))
      | exact ih0 _ _ _ _ _ _ _
      | exact chunk_Cut.mono _ _ _
      | exact switchboardlaw16_awake.mono _
      | exact LeO.none _
      | refine LeO.ite ?_ ?_
      | refine LeO.bind ?_ (fun _ => ?_)
theorem switchboardlaw16_ChunkCuts.mono : ∀ a0 a1 k, LeO (switchboardlaw16_ChunkCuts.f k a0 a1) (switchboardlaw16_ChunkCuts.f (k + 1) a0 a1) := by
  intro a0 a1 k
  have ih0 := switchboardlaw16_ChunkCuts.mono_l k
  unfold switchboardlaw16_ChunkCuts.f
  repeat' first
      | (with_reducible exact ih0 _ _ _ _ _ _ _)
      | (with_reducible exact chunk_Cut.mono _ _ _)
      | (with_reducible exact switchboardlaw16_awake.mono _)
      | (with_reducible exact LeO.refl _)
      | (with_reducible exact LeO.none _)
      | (with_reducible refine LeO.ite ?_ ?_)
      | (with_reducible refine LeO.bind ?_ (fun _ => ?_))
      | exact ih0 _ _ _ _ _ _ _
      | exact chunk_Cut.mono _ _ _
      | exact switchboardlaw16_awake.mono _
      | exact LeO.none _
      | refine LeO.ite ?_ ?_
      | refine LeO.bind ?_ (fun _ => ?_)
set_option maxHeartbeats 8000000 in
set_option maxRecDepth 100000 in
theorem switchboardlaw16_ChunkCuts.calls (k : Nat) (a0 : ByteArray) (a1 : Int) (r : Bool) (w : World) (h : switchboardlaw16_ChunkCuts.f k a0 a1 = some r) :
    Calls Try.prog 7 #[.string a0, .int .u8 a1] w fun e w' => e = .returned (.bool r) ∧ Below w.heap.size w w' := by
  have HB := Aside0.mk (Below.refl w.heap.size w)
  have H : (if (a0.size : Int) > 600 then ((switchboardlaw16_awake.f k).bind fun t303 => (some t303)) else ((chunk_Cut.f k a0 (wrap64 (1 + (wrap64 (Int.tmod a1 64))))).bind fun bt304 => (switchboardlaw16_ChunkCuts.l0 k a0 (wrap64 (1 + (wrap64 (Int.tmod a1 64)))) bt304.1 bt304.2 bt304.1 (bt304.1.length : Int) 0))) = some r := h
  clear h
  by_cases c3 : (a0.size : Int) > 600
  · rw [if_pos c3] at H
    have c3b0 : decide (600 < (a0.size : Int)) = true := decide_eq_true c3
    have c3b1 : decide (600 < a0.size) = true := decide_eq_true (by omega)
    clear c3
    replace H := Option.bind_eq_some_iff.mp H
    obtain ⟨t303, A40, H⟩ := H
    replace H : (some t303) = some r := H
    have A4 := Aside0.mk A40
    clear A40
    obtain rfl := Option.some.inj H
    go_enter Try.func7, Try.ntmps7
    go_wp2_with (first | ((with_reducible refine gate_callee (f := 10) rfl ?_); refine goesL_ (some 13) rfl rfl Try.func10 (by kernel_rfl) rfl #[] rfl (by (try simp only [List.map_toArray, List.map_cons, List.map_nil]); first | done | rfl | (simp only [ByteArray.size_append, Int.natCast_add, List.length_drop, List.length_take]; first | done | rfl) | (simp only [List.length_drop, List.length_take]; rfl)) ?_; (with_reducible refine (switchboardlaw16_awake.calls k  t303 _ A4.out).mono ?_); rintro e w5 ⟨rfl, hb⟩; refine ⟨_, rfl, ?_⟩; have n0_ := Aside0.mk (below_step (by repeat (first | (with_reducible first | exact HB.out | apply below_alloc | apply pw_below_drewN | apply below_drew1) | exact HB.out)) hb); clear HB; have HB := n0_; clear n0_; (try clear hb); (try clear hb2); (try clear hk); (try clear hi)))
    go_ret
    exact ⟨by first | rfl | (simp [errW_none, errW_some] <;> rfl) | (simp [*, errW_none, errW_some] <;> rfl), by repeat (first | (with_reducible first | exact HB.out | apply below_alloc | apply pw_below_drewN | apply below_drew1) | exact HB.out)⟩
  · rw [if_neg c3] at H
    have c3b0 : decide (600 < (a0.size : Int)) = false := decide_eq_false c3
    have c3b1 : decide (600 < a0.size) = false := decide_eq_false (by omega)
    clear c3
    replace H := Option.bind_eq_some_iff.mp H
    obtain ⟨⟨t304, t305⟩, A60, H⟩ := H
    replace H : (switchboardlaw16_ChunkCuts.l0 k a0 (wrap64 (1 + (wrap64 (Int.tmod a1 64)))) t304 t305 t304 (t304.length : Int) 0) = some r := H
    have A6 := Aside0.mk A60
    clear A60
    have H' := Aside0.mk H
    clear H
    go_enter Try.func7, Try.ntmps7
    go_wp2_with (first | ((with_reducible refine gate_callee (f := 13) rfl ?_); refine goesL_ (some 21) rfl rfl Try.func13 (by kernel_rfl) rfl #[.string a0, .int .i64 (wrap64 (1 + (wrap64 (Int.tmod a1 64))))] rfl (by (try simp only [List.map_toArray, List.map_cons, List.map_nil]); first | done | rfl | (simp only [ByteArray.size_append, Int.natCast_add, List.length_drop, List.length_take]; first | done | rfl) | (simp only [List.length_drop, List.length_take]; rfl)) ?_; (with_reducible refine (chunk_Cut.calls k a0 (wrap64 (1 + (wrap64 (Int.tmod a1 64)))) t304 t305 _ A6.out).mono ?_); rintro e w7 ⟨v306, rfl, ho0, hb⟩; refine ⟨_, rfl, ?_⟩; have n0_ := Aside0.mk (Kd.R_lower ho0 (below_size (by repeat (first | (with_reducible first | exact HB.out | apply below_alloc | apply pw_below_drewN | apply below_drew1) | exact HB.out)))); have n1_ := Aside0.mk (below_step (by repeat (first | (with_reducible first | exact HB.out | apply below_alloc | apply pw_below_drewN | apply below_drew1) | exact HB.out)) hb); clear HB; have HO307 := n0_; have HB := n1_; clear n0_ n1_; (try clear hb); (try clear hb2); (try clear hk); (try clear hi); (try clear ho0); obtain ⟨Ao8, co8, eo8⟩ := Kd.R_slice HO307.out; subst eo8))
    go_loopg [26] k (fun kq v26 w' => ∃ (x26_1 : Int), v26 = .int .i64 x26_1 ∧ Aside0 (switchboardlaw16_ChunkCuts.l0 kq a0 (wrap64 (1 + (wrap64 (Int.tmod a1 64)))) t304 t305 t304 (t304.length : Int) x26_1 = some r) ∧ Aside0 (kq ≤ k) ∧ Aside0 (Kd.R Kd.string 9 w' w.heap.size (fun _ => True) (.slice Ao8 t304.length co8) t304) ∧ Aside0 (Kd.R Kd.string 9 w' w.heap.size (fun _ => True) (.slice Ao8 t304.length co8) t304) ∧ Aside0 (Below w.heap.size w w'))
    case atStart => exact ⟨(0), (by first | rfl | (simp; done) | (simp [*]; done)), H', ⟨Nat.le_refl _⟩, ⟨by (with_reducible repeat (first | apply Kd.R_alloc | apply Kd.R_drewN | apply Kd.R_drew)); exact HO307.out⟩, ⟨by (with_reducible repeat (first | apply Kd.R_alloc | apply Kd.R_drewN | apply Kd.R_drew)); exact HO307.out⟩, ⟨by repeat (first | (with_reducible first | exact HB.out | apply below_alloc | apply pw_below_drewN | apply below_drew1) | exact HB.out)⟩⟩
    case round =>
      clear H'
      try clear c1
      try clear p2
      try clear c3
      try clear c3b0
      try clear c3b1
      try clear p6
      try clear c7
      obtain ⟨x26_1, rfl, HA, HK1, HO_6, HO_24, HB⟩ := hrel
      cases gk with
      | zero => exact absurd HA.out (by simp [switchboardlaw16_ChunkCuts.l0])
      | succ k1 =>
        have H := HA.out
        clear HA
        simp only [switchboardlaw16_ChunkCuts.l0] at H
        by_cases c9 : x26_1 < (t304.length : Int)
        · rw [if_pos c9] at H
          have c9b0 : decide (x26_1 < (t304.length : Int)) = true := decide_eq_true c9
          clear c9
          by_cases c10 : 0 ≤ x26_1
          · rw [if_pos c10] at H
            have c10b0 : decide (0 ≤ x26_1) = true := decide_eq_true c10
            clear c10
            by_cases c11 : x26_1 < (t304.length : Int)
            · rw [if_pos c11] at H
              have c11b0 : decide (x26_1 < (t304.length : Int)) = true := decide_eq_true c11
              clear c11
              by_cases c12 : ((rdOf ByteArray.empty t304 x26_1).size : Int) > (wrap64 (1 + (wrap64 (Int.tmod a1 64))))
              · rw [if_pos c12] at H
                have c12b0 : decide ((wrap64 (1 + (wrap64 (Int.tmod a1 64)))) < ((rdOf ByteArray.empty t304 x26_1).size : Int)) = true := decide_eq_true c12
                clear c12
                obtain rfl := Option.some.inj H
                have p308 : 0 ≤ (x26_1 : Int) := of_decide_eq_true (by first | (with_reducible assumption) | assumption)
                have q308 : x26_1 < (t304.length : Int) := of_decide_eq_true (by first | (with_reducible assumption) | assumption)
                obtain ⟨ad308, e308, hx308_0⟩ := Kd.at_string (Kd.R_reads' HO_24.out).2.2 x26_1 p308 q308
                cases e308
                replace p308 := eq_true p308
                replace q308 := eq_true q308
                go_wp2
                go_ret
                exact ⟨by first | rfl | (simp [errW_none, errW_some] <;> rfl) | (simp [*, errW_none, errW_some] <;> rfl), by repeat (first | (with_reducible first | exact HB.out | apply below_alloc | apply pw_below_drewN | apply below_drew1) | exact HB.out)⟩
              · rw [if_neg c12] at H
                have c12b0 : decide ((wrap64 (1 + (wrap64 (Int.tmod a1 64)))) < ((rdOf ByteArray.empty t304 x26_1).size : Int)) = false := decide_eq_false c12
                clear c12
                by_cases c13 : (rdOf ByteArray.empty t304 x26_1).toList = ([] : List UInt8)
                · rw [if_pos c13] at H
                  have c13b0 : ((rdOf ByteArray.empty t304 x26_1).toList == ([] : List UInt8)) = true := beq_iff_eq.mpr c13
                  have c13b1 : ((rdOf ByteArray.empty t304 x26_1).toList != ([] : List UInt8)) = false := bne_eq_false_iff_eq.mpr c13
                  clear c13
                  obtain rfl := Option.some.inj H
                  have p308 : 0 ≤ (x26_1 : Int) := of_decide_eq_true (by first | (with_reducible assumption) | assumption)
                  have q308 : x26_1 < (t304.length : Int) := of_decide_eq_true (by first | (with_reducible assumption) | assumption)
                  obtain ⟨ad308, e308, hx308_0⟩ := Kd.at_string (Kd.R_reads' HO_24.out).2.2 x26_1 p308 q308
                  cases e308
                  replace p308 := eq_true p308
                  replace q308 := eq_true q308
                  go_wp2
                  go_ret
                  exact ⟨by first | rfl | (simp [errW_none, errW_some] <;> rfl) | (simp [*, errW_none, errW_some] <;> rfl), by repeat (first | (with_reducible first | exact HB.out | apply below_alloc | apply pw_below_drewN | apply below_drew1) | exact HB.out)⟩
                · rw [if_neg c13] at H
                  have c13b0 : ((rdOf ByteArray.empty t304 x26_1).toList == ([] : List UInt8)) = false := beq_eq_false_iff_ne.mpr c13
                  have c13b1 : ((rdOf ByteArray.empty t304 x26_1).toList != ([] : List UInt8)) = true := bne_iff_ne.mpr c13
                  by_cases c14 : x26_1 < (wrap64 ((t304.length : Int) - 1))
                  · rw [if_pos c14] at H
                    have c14b0 : decide (x26_1 < (wrap64 ((t304.length : Int) - 1))) = true := decide_eq_true c14
                    clear c14
                    by_cases c15 : ((rdOf ByteArray.empty t304 x26_1).size : Int) = (wrap64 (1 + (wrap64 (Int.tmod a1 64))))
                    · rw [if_pos c15] at H
                      have c15b0 : (((rdOf ByteArray.empty t304 x26_1).size : Int) == (wrap64 (1 + (wrap64 (Int.tmod a1 64))))) = true := beq_iff_eq.mpr c15
                      have c15b1 : (((rdOf ByteArray.empty t304 x26_1).size : Int) != (wrap64 (1 + (wrap64 (Int.tmod a1 64))))) = false := bne_eq_false_iff_eq.mpr c15
                      clear c15
                      have H' := Aside0.mk H
                      clear H
                      have p308 : 0 ≤ (x26_1 : Int) := of_decide_eq_true (by first | (with_reducible assumption) | assumption)
                      have q308 : x26_1 < (t304.length : Int) := of_decide_eq_true (by first | (with_reducible assumption) | assumption)
                      obtain ⟨ad308, e308, hx308_0⟩ := Kd.at_string (Kd.R_reads' HO_24.out).2.2 x26_1 p308 q308
                      cases e308
                      replace p308 := eq_true p308
                      replace q308 := eq_true q308
                      go_wp2
                      go_roundg k1
                      case measure => have := HK1.out; omega
                      case rel => exact ⟨(wrap64 (x26_1 + 1)), (by first | rfl | (simp; done) | (simp [*]; done)), H', ⟨by have := HK1.out; omega⟩, ⟨by (with_reducible repeat (first | apply Kd.R_alloc | apply Kd.R_drewN | apply Kd.R_drew)); exact HO_6.out⟩, ⟨by (with_reducible repeat (first | apply Kd.R_alloc | apply Kd.R_drewN | apply Kd.R_drew)); exact HO_24.out⟩, ⟨by repeat (first | (with_reducible first | exact HB.out | apply below_alloc | apply pw_below_drewN | apply below_drew1) | exact HB.out)⟩⟩
                    · rw [if_neg c15] at H
                      have c15b0 : (((rdOf ByteArray.empty t304 x26_1).size : Int) == (wrap64 (1 + (wrap64 (Int.tmod a1 64))))) = false := beq_eq_false_iff_ne.mpr c15
                      have c15b1 : (((rdOf ByteArray.empty t304 x26_1).size : Int) != (wrap64 (1 + (wrap64 (Int.tmod a1 64))))) = true := bne_iff_ne.mpr c15
                      obtain rfl := Option.some.inj H
                      have p308 : 0 ≤ (x26_1 : Int) := of_decide_eq_true (by first | (with_reducible assumption) | assumption)
                      have q308 : x26_1 < (t304.length : Int) := of_decide_eq_true (by first | (with_reducible assumption) | assumption)
                      obtain ⟨ad308, e308, hx308_0⟩ := Kd.at_string (Kd.R_reads' HO_24.out).2.2 x26_1 p308 q308
                      cases e308
                      replace p308 := eq_true p308
                      replace q308 := eq_true q308
                      go_wp2
                      go_ret
                      exact ⟨by first | rfl | (simp [errW_none, errW_some] <;> rfl) | (simp [*, errW_none, errW_some] <;> rfl), by repeat (first | (with_reducible first | exact HB.out | apply below_alloc | apply pw_below_drewN | apply below_drew1) | exact HB.out)⟩
                  · rw [if_neg c14] at H
                    have c14b0 : decide (x26_1 < (wrap64 ((t304.length : Int) - 1))) = false := decide_eq_false c14
                    clear c14
                    have H' := Aside0.mk H
                    clear H
                    have p308 : 0 ≤ (x26_1 : Int) := of_decide_eq_true (by first | (with_reducible assumption) | assumption)
                    have q308 : x26_1 < (t304.length : Int) := of_decide_eq_true (by first | (with_reducible assumption) | assumption)
                    obtain ⟨ad308, e308, hx308_0⟩ := Kd.at_string (Kd.R_reads' HO_24.out).2.2 x26_1 p308 q308
                    cases e308
                    replace p308 := eq_true p308
                    replace q308 := eq_true q308
                    go_wp2
                    go_roundg k1
                    case measure => have := HK1.out; omega
                    case rel => exact ⟨(wrap64 (x26_1 + 1)), (by first | rfl | (simp; done) | (simp [*]; done)), H', ⟨by have := HK1.out; omega⟩, ⟨by (with_reducible repeat (first | apply Kd.R_alloc | apply Kd.R_drewN | apply Kd.R_drew)); exact HO_6.out⟩, ⟨by (with_reducible repeat (first | apply Kd.R_alloc | apply Kd.R_drewN | apply Kd.R_drew)); exact HO_24.out⟩, ⟨by repeat (first | (with_reducible first | exact HB.out | apply below_alloc | apply pw_below_drewN | apply below_drew1) | exact HB.out)⟩⟩
            · rw [if_neg c11] at H
              exact absurd H (by simp)
          · rw [if_neg c10] at H
            exact absurd H (by simp)
        · rw [if_neg c9] at H
          have c9b0 : decide (x26_1 < (t304.length : Int)) = false := decide_eq_false c9
          clear c9
          by_cases c16 : t305 = true
          · subst c16
            have H1 : ((chunk_Join.f t304).bind fun t309 => (if t309.toList = a0.toList then ((switchboardlaw16_awake.f k1).bind fun t310 => (some t310)) else (some false))) = some r := by rw [if_pos rfl] at H; exact H
            clear H
            have H := H1
            clear H1
            replace H := Option.bind_eq_some_iff.mp H
            obtain ⟨t309, A170, H⟩ := H
            replace H : (if t309.toList = a0.toList then ((switchboardlaw16_awake.f k1).bind fun t310 => (some t310)) else (some false)) = some r := H
            have A17 := Aside0.mk A170
            clear A170
            by_cases c18 : t309.toList = a0.toList
            · rw [if_pos c18] at H
              have c18b0 : (t309.toList == a0.toList) = true := beq_iff_eq.mpr c18
              have c18b1 : (t309.toList != a0.toList) = false := bne_eq_false_iff_eq.mpr c18
              clear c18
              replace H := Option.bind_eq_some_iff.mp H
              obtain ⟨t310, A190, H⟩ := H
              replace H : (some t310) = some r := H
              have A19 := Aside0.mk A190
              clear A190
              obtain rfl := Option.some.inj H
              go_wp2_with (first | (go_at_call 14; (with_reducible refine (chunk_Join.calls _ _ t304 t309 _ ?side1 ?side2 A17.out).mono ?_); (case side1 => repeat (first | exact (Kd.R_reads' HO_6.out).2.2 | (with_reducible refine Kd.C_alloc ?_ _) | (with_reducible refine Kd.C_drewN ?_ _) | (with_reducible refine Kd.C_drew ?_))); (case side2 => exact (Kd.R_reads' HO_6.out).2.1); rintro e w20 ⟨rfl, hb⟩; have n0_ := Aside0.mk (Kd.R_below (by (with_reducible repeat (first | apply Kd.R_alloc | apply Kd.R_drewN | apply Kd.R_drew)); exact HO_6.out) hb); have n1_ := Aside0.mk (Kd.R_below (by (with_reducible repeat (first | apply Kd.R_alloc | apply Kd.R_drewN | apply Kd.R_drew)); exact HO_24.out) hb); have n2_ := Aside0.mk (below_step (by repeat (first | (with_reducible first | exact HB.out | apply below_alloc | apply pw_below_drewN | apply below_drew1) | exact HB.out)) hb); clear HO_6; clear HO_24; clear HB; have HO_6 := n0_; have HO_24 := n1_; have HB := n2_; clear n0_ n1_ n2_; (try clear hb); (try clear hb2); (try clear hk); (try clear hi)) | (go_at_call 10; (with_reducible refine (switchboardlaw16_awake.calls k1  t310 _ A19.out).mono ?_); rintro e w21 ⟨rfl, hb⟩; have n0_ := Aside0.mk (Kd.R_below (by (with_reducible repeat (first | apply Kd.R_alloc | apply Kd.R_drewN | apply Kd.R_drew)); exact HO_6.out) hb); have n1_ := Aside0.mk (Kd.R_below (by (with_reducible repeat (first | apply Kd.R_alloc | apply Kd.R_drewN | apply Kd.R_drew)); exact HO_24.out) hb); have n2_ := Aside0.mk (below_step (by repeat (first | (with_reducible first | exact HB.out | apply below_alloc | apply pw_below_drewN | apply below_drew1) | exact HB.out)) hb); clear HO_6; clear HO_24; clear HB; have HO_6 := n0_; have HO_24 := n1_; have HB := n2_; clear n0_ n1_ n2_; (try clear hb); (try clear hb2); (try clear hk); (try clear hi)))
              go_ret
              exact ⟨by first | rfl | (simp [errW_none, errW_some] <;> rfl) | (simp [*, errW_none, errW_some] <;> rfl), by repeat (first | (with_reducible first | exact HB.out | apply below_alloc | apply pw_below_drewN | apply below_drew1) | exact HB.out)⟩
            · rw [if_neg c18] at H
              have c18b0 : (t309.toList == a0.toList) = false := beq_eq_false_iff_ne.mpr c18
              have c18b1 : (t309.toList != a0.toList) = true := bne_iff_ne.mpr c18
              obtain rfl := Option.some.inj H
              go_wp2_with (first | (go_at_call 14; (with_reducible refine (chunk_Join.calls _ _ t304 t309 _ ?side1 ?side2 A17.out).mono ?_); (case side1 => repeat (first | exact (Kd.R_reads' HO_6.out).2.2 | (with_reducible refine Kd.C_alloc ?_ _) | (with_reducible refine Kd.C_drewN ?_ _) | (with_reducible refine Kd.C_drew ?_))); (case side2 => exact (Kd.R_reads' HO_6.out).2.1); rintro e w22 ⟨rfl, hb⟩; have n0_ := Aside0.mk (Kd.R_below (by (with_reducible repeat (first | apply Kd.R_alloc | apply Kd.R_drewN | apply Kd.R_drew)); exact HO_6.out) hb); have n1_ := Aside0.mk (Kd.R_below (by (with_reducible repeat (first | apply Kd.R_alloc | apply Kd.R_drewN | apply Kd.R_drew)); exact HO_24.out) hb); have n2_ := Aside0.mk (below_step (by repeat (first | (with_reducible first | exact HB.out | apply below_alloc | apply pw_below_drewN | apply below_drew1) | exact HB.out)) hb); clear HO_6; clear HO_24; clear HB; have HO_6 := n0_; have HO_24 := n1_; have HB := n2_; clear n0_ n1_ n2_; (try clear hb); (try clear hb2); (try clear hk); (try clear hi)))
              go_ret
              exact ⟨by first | rfl | (simp [errW_none, errW_some] <;> rfl) | (simp [*, errW_none, errW_some] <;> rfl), by repeat (first | (with_reducible first | exact HB.out | apply below_alloc | apply pw_below_drewN | apply below_drew1) | exact HB.out)⟩
          · replace c16 := Bool.eq_false_iff.mpr c16
            subst c16
            have H1 : (some false) = some r := by rw [if_neg (show ¬ (false = true) by decide)] at H; exact H
            clear H
            have H := H1
            clear H1
            obtain rfl := Option.some.inj H
            go_wp2
            go_ret
            exact ⟨by first | rfl | (simp [errW_none, errW_some] <;> rfl) | (simp [*, errW_none, errW_some] <;> rfl), by repeat (first | (with_reducible first | exact HB.out | apply below_alloc | apply pw_below_drewN | apply below_drew1) | exact HB.out)⟩

/-- THE ONE PURE STATEMENT of switchboardlaw16_ChunkCuts: yours. -/
def switchboardlaw16_ChunkCuts.Pure : Prop := ∀ (a0 : ByteArray) (a1 : Int), a0.size ≤ 140737488351232 → (Lit.int .u8 a1).wf = true → ∃ k, switchboardlaw16_ChunkCuts.f k a0 a1 = some true
theorem switchboardlaw16_ChunkCuts.walk (P : switchboardlaw16_ChunkCuts.Pure) (a0 : ByteArray) (a1 : Int) (w : World) (w0 : a0.size ≤ 140737488351232) (w1 : (Lit.int .u8 a1).wf = true) :
    Calls Try.prog 7 #[.string a0, .int .u8 a1] w fun e w' => e = .returned (.bool true) ∧ Below w.heap.size w w' := by
  obtain ⟨k, h⟩ := P a0 a1 w0 w1
  refine (switchboardlaw16_ChunkCuts.calls k a0 a1 true w h).mono ?_
  rintro e w' ⟨rfl, hd⟩
  exact ⟨rfl, hd⟩

end
end Go.Proofs.Ytdcojbamfchgiaa.QChunk
