-- Printed by a program of this session's own (wip/gen), which turns the kit's printer; not one of the kit's printed texts.
import Derived.Test.YtgfpkhihdahjlabQWirex0
import Derived.Test.YtgfpkhihdahjlabQWirex1
namespace Go.Proofs.Ytgfpkhihdahjlab.QWire
open Go.RowKit Go.Proofs.Ytgfpkhihdahjlab.Given Go.Proofs.YtgfpkhihdahjlabW.PrintWords Go.Proofs.YtgfpkhihdahjlabW.PrintLast Go.Proofs.YtgfpkhihdahjlabW.PrintMore
attribute [local go_sem] max2_int min2_int max_two min_two max_three min_three max_four min_four   -- for this text's walks alone
set_option linter.unusedVariables false
set_option linter.unusedSimpArgs false
noncomputable section

/-! ### wire_Right: function 21 -/
mutual
def wire_Right.l0 : Nat → List Int → Int → Int → Int → Int → Int → Int → Int → Int → Int → Int → Int → Int → List Int → Option (Bool)
 | 0, _, _, _, _, _, _, _, _, _, _, _, _, _, _ => none
 | k + 1, x8, x9, x10, x106000, x106001, x106002, x106003, x106004, x106005, x106006, x106007, x106008, x106009, x106010 => if x10 < x9 then (if 0 ≤ x10 then (if x10 < (x8.length : Int) then (if (rd x8 x10) < 0 then (some false) else (if (rd x8 x10) > 2147483647 then (some false) else (wire_Right.l0 k x8 x9 (wrap64 (x10 + 1)) x106000 x106001 x106002 x106003 x106004 x106005 x106006 x106007 x106008 x106009 x106010))) else (none)) else (none)) else (wire_Right.l1 k x106010 (x106010.length : Int) 0 x106000 x106001 x106002 x106003 x106004 x106005 x106006 x106007 x106008 x106009 x106010)
def wire_Right.l1 : Nat → List Int → Int → Int → Int → Int → Int → Int → Int → Int → Int → Int → Int → Int → List Int → Option (Bool)
 | 0, _, _, _, _, _, _, _, _, _, _, _, _, _, _ => none
 | k + 1, x22, x23, x24, x106000, x106001, x106002, x106003, x106004, x106005, x106006, x106007, x106008, x106009, x106010 => if x24 < x23 then (if 0 ≤ x24 then (if x24 < (x22.length : Int) then (if (rd x22 x24) < (-2147483648) then (some false) else (if (rd x22 x24) > 2147483647 then (some false) else (wire_Right.l1 k x22 x23 (wrap64 (x24 + 1)) x106000 x106001 x106002 x106003 x106004 x106005 x106006 x106007 x106008 x106009 x106010))) else (none)) else (none)) else (if x106000 ≥ 1 then (if x106000 ≤ 4 then (some (decide ((x106010.length : Int) ≤ 8))) else (some false)) else (some false))
end
def wire_Right.f (k : Nat) (a0_0 : Int) (a0_1 : Int) (a0_2 : Int) (a0_3 : Int) (a0_4 : Int) (a0_5 : Int) (a0_6 : Int) (a0_7 : Int) (a0_8 : Int) (a0_9 : Int) (l0_10 : List Int) : Option (Bool) := (wire_numbers.f a0_0 a0_1 a0_2 a0_3 a0_4 a0_5 a0_6 a0_7 a0_8 a0_9 l0_10).bind fun t106 => (wire_Right.l0 k t106 (t106.length : Int) 0 a0_0 a0_1 a0_2 a0_3 a0_4 a0_5 a0_6 a0_7 a0_8 a0_9 l0_10)
theorem wire_Right.mono_l : ∀ k, (∀ y0 y1 y2 y3 y4 y5 y6 y7 y8 y9 y10 y11 y12 y13, LeO (wire_Right.l0 k y0 y1 y2 y3 y4 y5 y6 y7 y8 y9 y10 y11 y12 y13) (wire_Right.l0 (k + 1) y0 y1 y2 y3 y4 y5 y6 y7 y8 y9 y10 y11 y12 y13)) ∧ (∀ y0 y1 y2 y3 y4 y5 y6 y7 y8 y9 y10 y11 y12 y13, LeO (wire_Right.l1 k y0 y1 y2 y3 y4 y5 y6 y7 y8 y9 y10 y11 y12 y13) (wire_Right.l1 (k + 1) y0 y1 y2 y3 y4 y5 y6 y7 y8 y9 y10 y11 y12 y13))
 | 0 => ⟨fun _ _ _ _ _ _ _ _ _ _ _ _ _ _ r h => by simp [wire_Right.l0] at h, fun _ _ _ _ _ _ _ _ _ _ _ _ _ _ r h => by simp [wire_Right.l1] at h⟩
 | k + 1 => by
  obtain ⟨ih0, ih1⟩ := wire_Right.mono_l k
  refine ⟨?_, ?_⟩
  ·intro y0 y1 y2 y3 y4 y5 y6 y7 y8 y9 y10 y11 y12 y13
   unfold wire_Right.l0
   repeat' first
   | (with_reducible exact ih0 _ _ _ _ _ _ _ _ _ _ _ _ _ _)
   | (with_reducible exact ih1 _ _ _ _ _ _ _ _ _ _ _ _ _ _)
   | (with_reducible exact LeO.refl _)
   | (with_reducible exact LeO.none _)
   | (with_reducible refine LeO.ite ?_ ?_)
   | (with_reducible refine LeO.bind ?_ (fun _ => ?_))
   | exact ih0 _ _ _ _ _ _ _ _ _ _ _ _ _ _
   | exact ih1 _ _ _ _ _ _ _ _ _ _ _ _ _ _
   | exact LeO.none _
   | refine LeO.ite ?_ ?_
   | refine LeO.bind ?_ (fun _ => ?_)
  ·intro y0 y1 y2 y3 y4 y5 y6 y7 y8 y9 y10 y11 y12 y13
   unfold wire_Right.l1
   repeat' first
   | (with_reducible exact ih0 _ _ _ _ _ _ _ _ _ _ _ _ _ _)
   | (with_reducible exact ih1 _ _ _ _ _ _ _ _ _ _ _ _ _ _)
   | (with_reducible exact LeO.refl _)
   | (with_reducible exact LeO.none _)
   | (with_reducible refine LeO.ite ?_ ?_)
   | (with_reducible refine LeO.bind ?_ (fun _ => ?_))
   | exact ih0 _ _ _ _ _ _ _ _ _ _ _ _ _ _
   | exact ih1 _ _ _ _ _ _ _ _ _ _ _ _ _ _
   | exact LeO.none _
   | refine LeO.ite ?_ ?_
   | refine LeO.bind ?_ (fun _ => ?_)
theorem wire_Right.mono : ∀ a0 a1 a2 a3 a4 a5 a6 a7 a8 a9 a10 k, LeO (wire_Right.f k a0 a1 a2 a3 a4 a5 a6 a7 a8 a9 a10) (wire_Right.f (k + 1) a0 a1 a2 a3 a4 a5 a6 a7 a8 a9 a10) := by
 intro a0 a1 a2 a3 a4 a5 a6 a7 a8 a9 a10 k
 obtain ⟨ih0, ih1⟩ := wire_Right.mono_l k
 unfold wire_Right.f
 repeat' first
   | (with_reducible exact ih0 _ _ _ _ _ _ _ _ _ _ _ _ _ _)
   | (with_reducible exact ih1 _ _ _ _ _ _ _ _ _ _ _ _ _ _)
   | (with_reducible exact LeO.refl _)
   | (with_reducible exact LeO.none _)
   | (with_reducible refine LeO.ite ?_ ?_)
   | (with_reducible refine LeO.bind ?_ (fun _ => ?_))
   | exact ih0 _ _ _ _ _ _ _ _ _ _ _ _ _ _
   | exact ih1 _ _ _ _ _ _ _ _ _ _ _ _ _ _
   | exact LeO.none _
   | refine LeO.ite ?_ ?_
   | refine LeO.bind ?_ (fun _ => ?_)
set_option maxHeartbeats 8000000 in
set_option maxRecDepth 100000 in
theorem wire_Right.calls (k : Nat) (a0_0 : Int) (a0_1 : Int) (a0_2 : Int) (a0_3 : Int) (a0_4 : Int) (a0_5 : Int) (a0_6 : Int) (a0_7 : Int) (a0_8 : Int) (a0_9 : Int) (A0_10 : Option Addr) (c0_10 : Nat) (l0_10 : List Int) (r : Bool) (w : World) (hr0_10 : Kd.C (Kd.int .i64) w A0_10 l0_10.length l0_10) (hc0_10 : l0_10.length ≤ c0_10) (h : wire_Right.f k a0_0 a0_1 a0_2 a0_3 a0_4 a0_5 a0_6 a0_7 a0_8 a0_9 l0_10 = some r) :
  Calls Try.prog 21 #[.agg #[.int .i64 a0_0, .int .i64 a0_1, .int .i64 a0_2, .int .i64 a0_3, .int .i64 a0_4, .int .i64 a0_5, .int .i64 a0_6, .int .i64 a0_7, .int .i64 a0_8, .int .i64 a0_9, .slice A0_10 l0_10.length c0_10]] w fun e w' => e = .returned (.bool r) ∧ Below w.heap.size w w' := by
 have hu32 := Try.underlying32
 have HR0_10 := Aside0.mk hr0_10
 have HC0_10 := Aside0.mk hc0_10
 clear hr0_10 hc0_10
 have HB := Aside0.mk (Below.refl w.heap.size w)
 have H : ((wire_numbers.f a0_0 a0_1 a0_2 a0_3 a0_4 a0_5 a0_6 a0_7 a0_8 a0_9 l0_10).bind fun t106 => (wire_Right.l0 k t106 (t106.length : Int) 0 a0_0 a0_1 a0_2 a0_3 a0_4 a0_5 a0_6 a0_7 a0_8 a0_9 l0_10)) = some r := h
 clear h
 replace H := Option.bind_eq_some_iff.mp H
 obtain ⟨t106, A20, H⟩ := H
 replace H : (wire_Right.l0 k t106 (t106.length : Int) 0 a0_0 a0_1 a0_2 a0_3 a0_4 a0_5 a0_6 a0_7 a0_8 a0_9 l0_10) = some r := H
 have A2 := Aside0.mk A20
 clear A20
 have H' := Aside0.mk H
 clear H
 go_enter Try.func21, Try.ntmps21
 go_wp2_with (first | ((with_reducible refine gate_dst (N := 1) rfl ?_); (try (refine gate_guard (by rfl) ?_; dsimp only)); refine box_event ?hg (N := 1) ?hd (cs := #[.int .i64 a0_0, .int .i64 a0_1, .int .i64 a0_2, .int .i64 a0_3, .int .i64 a0_4, .int .i64 a0_5, .int .i64 a0_6, .int .i64 a0_7, .int .i64 a0_8, .int .i64 a0_9, .slice A0_10 l0_10.length c0_10]) (t := 32) ?hr ?_; (case hd => rfl); (case hg => rfl); (case hr => first | (go_simp; done) | (go_simp; rfl)); intro gb105 hg w3 hbox hb; have n0_ := Aside0.mk (below_step (by repeat (first | (with_reducible first | exact HB.out | apply below_alloc | apply pw_below_drewN | apply below_drew1) | exact HB.out)) hb); have n1_ := Aside0.mk (hbox); have n2_ := Aside0.mk ((by rw [hg]; exact (below_size (by repeat (first | (with_reducible first | exact HB.out | apply below_alloc | apply pw_below_drewN | apply below_drew1) | exact HB.out))) : w.heap.size ≤ gb105)); have n3_ := Aside0.mk ((by rw [hg]; exact (below_size (by repeat (first | (with_reducible first | exact HB.out | apply below_alloc | apply pw_below_drewN | apply below_drew1) | exact HB.out))) : w.heap.size ≤ gb105)); clear HB; have HB := n0_; have BK105 := n1_; have GW105 := n2_; have GE105 := n3_; clear n0_ n1_ n2_ n3_; clear hb hbox hg; have hcz4_0 : w3.cell? ⟨gb105, 0, none⟩ = some (.int .i64 a0_0) := (blk_cell BK105.out 0).trans rfl; have hcz4_1 : w3.cell? ⟨gb105, 1, none⟩ = some (.int .i64 a0_1) := (blk_cell BK105.out 1).trans rfl; have hcz4_2 : w3.cell? ⟨gb105, 2, none⟩ = some (.int .i64 a0_2) := (blk_cell BK105.out 2).trans rfl; have hcz4_3 : w3.cell? ⟨gb105, 3, none⟩ = some (.int .i64 a0_3) := (blk_cell BK105.out 3).trans rfl; have hcz4_4 : w3.cell? ⟨gb105, 4, none⟩ = some (.int .i64 a0_4) := (blk_cell BK105.out 4).trans rfl; have hcz4_5 : w3.cell? ⟨gb105, 5, none⟩ = some (.int .i64 a0_5) := (blk_cell BK105.out 5).trans rfl; have hcz4_6 : w3.cell? ⟨gb105, 6, none⟩ = some (.int .i64 a0_6) := (blk_cell BK105.out 6).trans rfl; have hcz4_7 : w3.cell? ⟨gb105, 7, none⟩ = some (.int .i64 a0_7) := (blk_cell BK105.out 7).trans rfl; have hcz4_8 : w3.cell? ⟨gb105, 8, none⟩ = some (.int .i64 a0_8) := (blk_cell BK105.out 8).trans rfl; have hcz4_9 : w3.cell? ⟨gb105, 9, none⟩ = some (.int .i64 a0_9) := (blk_cell BK105.out 9).trans rfl; have hcz4_10 : w3.cell? ⟨gb105, 10, none⟩ = some (.slice A0_10 l0_10.length c0_10) := (blk_cell BK105.out 10).trans rfl; have hfz4_0 := blk_frozen BK105.out 0; have hfz4_1 := blk_frozen BK105.out 1; have hfz4_2 := blk_frozen BK105.out 2; have hfz4_3 := blk_frozen BK105.out 3; have hfz4_4 := blk_frozen BK105.out 4; have hfz4_5 := blk_frozen BK105.out 5; have hfz4_6 := blk_frozen BK105.out 6; have hfz4_7 := blk_frozen BK105.out 7; have hfz4_8 := blk_frozen BK105.out 8; have hfz4_9 := blk_frozen BK105.out 9; have hfz4_10 := blk_frozen BK105.out 10) | ((with_reducible refine gate_callee (f := 38) rfl ?_); refine goesL_ (some 8) rfl rfl Try.func38 (by kernel_rfl) rfl #[.agg #[.int .i64 a0_0, .int .i64 a0_1, .int .i64 a0_2, .int .i64 a0_3, .int .i64 a0_4, .int .i64 a0_5, .int .i64 a0_6, .int .i64 a0_7, .int .i64 a0_8, .int .i64 a0_9, .slice A0_10 l0_10.length c0_10]] rfl (by (try simp only [List.map_toArray, List.map_cons, List.map_nil]); first | done | rfl | (simp only [ByteArray.size_append, Int.natCast_add, List.length_drop, List.length_take]; first | done | rfl) | (simp only [List.length_drop, List.length_take]; rfl)) ?_; (with_reducible refine (wire_numbers.calls a0_0 a0_1 a0_2 a0_3 a0_4 a0_5 a0_6 a0_7 a0_8 a0_9 _ _ l0_10 t106 _ ?side1 ?side2 A2.out).mono ?_); (case side1 => repeat (first | exact (Kd.C_below HR0_10.out HB.out) | (with_reducible refine Kd.C_alloc ?_ _) | (with_reducible refine Kd.C_drewN ?_ _) | (with_reducible refine Kd.C_drew ?_))); (case side2 => exact HC0_10.out); rintro e w5 ⟨v107, rfl, ho0, hb⟩; refine ⟨_, rfl, ?_⟩; have n0_ := Aside0.mk (Kd.R_lower ho0 (below_size (by repeat (first | (with_reducible first | exact HB.out | apply below_alloc | apply pw_below_drewN | apply below_drew1 | refine below_set ?_ GE105.out) | exact HB.out)))); have n1_ := Aside0.mk (blk_below (g := gb105) (o := .cells #[.int .i64 a0_0, .int .i64 a0_1, .int .i64 a0_2, .int .i64 a0_3, .int .i64 a0_4, .int .i64 a0_5, .int .i64 a0_6, .int .i64 a0_7, .int .i64 a0_8, .int .i64 a0_9, .slice A0_10 l0_10.length c0_10] 32 (0, 0)) (by (with_reducible repeat (first | refine blk_drewN ?_ _ | refine blk_drew ?_ | refine blk_alloc ?_ _)); exact BK105.out) hb); have n2_ := Aside0.mk (below_step (by repeat (first | (with_reducible first | exact HB.out | apply below_alloc | apply pw_below_drewN | apply below_drew1 | refine below_set ?_ GE105.out) | exact HB.out)) hb); clear BK105; clear HB; have HO108 := n0_; have BK105 := n1_; have HB := n2_; clear n0_ n1_ n2_; (try clear hb); (try clear hb2); (try clear hk); (try clear hi); (try clear ho0); obtain ⟨Ao6, co6, eo6⟩ := Kd.R_slice HO108.out; subst eo6))
 go_loopg [10] k (fun kq v10 w' => ∃ (x10_1 : Int), v10 = .int .i64 x10_1 ∧ Aside0 (wire_Right.l0 kq t106 (t106.length : Int) x10_1 a0_0 a0_1 a0_2 a0_3 a0_4 a0_5 a0_6 a0_7 a0_8 a0_9 l0_10 = some r) ∧ Aside0 (kq ≤ k) ∧ Aside0 (Kd.R (Kd.int .i64) 3 w' w.heap.size (fun _ => True) (.slice Ao6 t106.length co6) t106) ∧ Aside0 (w'.heap[gb105]? = some (.cells #[.int .i64 a0_0, .int .i64 a0_1, .int .i64 a0_2, .int .i64 a0_3, .int .i64 a0_4, .int .i64 a0_5, .int .i64 a0_6, .int .i64 a0_7, .int .i64 a0_8, .int .i64 a0_9, (.slice A0_10 l0_10.length c0_10)] 32 (0, 0))) ∧ Aside0 (Below w.heap.size w w'))
 case atStart => exact ⟨(0), (by first | rfl | (simp; done) | (simp [*]; done)), H', ⟨Nat.le_refl _⟩, ⟨by (with_reducible repeat (first | apply Kd.R_alloc | apply Kd.R_drewN | apply Kd.R_drew)); exact HO108.out⟩, ⟨by (with_reducible repeat (first | refine blk_drewN ?_ _ | refine blk_drew ?_ | refine blk_alloc ?_ _)); exact BK105.out⟩, ⟨by repeat (first | (with_reducible first | exact HB.out | apply below_alloc | apply pw_below_drewN | apply below_drew1 | refine below_set ?_ GE105.out) | exact HB.out)⟩⟩
 case round =>
  clear H'
  try clear c2
  try clear p2
  try clear c3
  try clear hcz4_0
  try clear hcz4_1
  try clear hcz4_10
  try clear hcz4_2
  try clear hcz4_3
  try clear hcz4_4
  try clear hcz4_5
  try clear hcz4_6
  try clear hcz4_7
  try clear hcz4_8
  try clear hcz4_9
  try clear hfz4_0
  try clear hfz4_1
  try clear hfz4_10
  try clear hfz4_2
  try clear hfz4_3
  try clear hfz4_4
  try clear hfz4_5
  try clear hfz4_6
  try clear hfz4_7
  try clear hfz4_8
  try clear hfz4_9
  obtain ⟨x10_1, rfl, HA, HK1, HO_8, BK105, HB⟩ := hrel
  cases gk with
  | zero => exact absurd HA.out (by simp [wire_Right.l0])
  | succ k1 =>
   have H := HA.out
   clear HA
   simp only [wire_Right.l0] at H
   by_cases c7 : x10_1 < (t106.length : Int)
   ·rw [if_pos c7] at H
    have c7b0 : decide (x10_1 < (t106.length : Int)) = true := decide_eq_true c7
    clear c7
    by_cases c8 : 0 ≤ x10_1
    ·rw [if_pos c8] at H
     have c8b0 : decide (0 ≤ x10_1) = true := decide_eq_true c8
     clear c8
     by_cases c9 : x10_1 < (t106.length : Int)
     ·rw [if_pos c9] at H
      have c9b0 : decide (x10_1 < (t106.length : Int)) = true := decide_eq_true c9
      clear c9
      by_cases c10 : (rd t106 x10_1) < 0
      ·rw [if_pos c10] at H
       have c10b0 : decide ((rd t106 x10_1) < 0) = true := decide_eq_true c10
       clear c10
       obtain rfl := Option.some.inj H
       have p109 : 0 ≤ (x10_1 : Int) := of_decide_eq_true (by first | (with_reducible assumption) | assumption)
       have q109 : x10_1 < (t106.length : Int) := of_decide_eq_true (by first | (with_reducible assumption) | assumption)
       obtain ⟨ad109, e109, hx109_0⟩ := Kd.at_int (Kd.R_reads' HO_8.out).2.2 x10_1 p109 q109
       cases e109
       replace p109 := eq_true p109
       replace q109 := eq_true q109
       go_wp2
       go_ret
       exact ⟨by first | rfl | (simp [errW_none, errW_some] <;> rfl) | (simp [*, errW_none, errW_some] <;> rfl), by repeat (first | (with_reducible first | exact HB.out | apply below_alloc | apply pw_below_drewN | apply below_drew1 | refine below_set ?_ GE105.out) | exact HB.out)⟩
      ·rw [if_neg c10] at H
       have c10b0 : decide ((rd t106 x10_1) < 0) = false := decide_eq_false c10
       clear c10
       by_cases c11 : (rd t106 x10_1) > 2147483647
       ·rw [if_pos c11] at H
        have c11b0 : decide (2147483647 < (rd t106 x10_1)) = true := decide_eq_true c11
        clear c11
        obtain rfl := Option.some.inj H
        have p109 : 0 ≤ (x10_1 : Int) := of_decide_eq_true (by first | (with_reducible assumption) | assumption)
        have q109 : x10_1 < (t106.length : Int) := of_decide_eq_true (by first | (with_reducible assumption) | assumption)
        obtain ⟨ad109, e109, hx109_0⟩ := Kd.at_int (Kd.R_reads' HO_8.out).2.2 x10_1 p109 q109
        cases e109
        replace p109 := eq_true p109
        replace q109 := eq_true q109
        go_wp2
        go_ret
        exact ⟨by first | rfl | (simp [errW_none, errW_some] <;> rfl) | (simp [*, errW_none, errW_some] <;> rfl), by repeat (first | (with_reducible first | exact HB.out | apply below_alloc | apply pw_below_drewN | apply below_drew1 | refine below_set ?_ GE105.out) | exact HB.out)⟩
       ·rw [if_neg c11] at H
        have c11b0 : decide (2147483647 < (rd t106 x10_1)) = false := decide_eq_false c11
        clear c11
        have H' := Aside0.mk H
        clear H
        have p109 : 0 ≤ (x10_1 : Int) := of_decide_eq_true (by first | (with_reducible assumption) | assumption)
        have q109 : x10_1 < (t106.length : Int) := of_decide_eq_true (by first | (with_reducible assumption) | assumption)
        obtain ⟨ad109, e109, hx109_0⟩ := Kd.at_int (Kd.R_reads' HO_8.out).2.2 x10_1 p109 q109
        cases e109
        replace p109 := eq_true p109
        replace q109 := eq_true q109
        go_wp2
        go_roundg k1
        case measure => have := HK1.out; omega
        case rel => exact ⟨(wrap64 (x10_1 + 1)), (by first | rfl | (simp; done) | (simp [*]; done)), H', ⟨by have := HK1.out; omega⟩, ⟨by (with_reducible repeat (first | apply Kd.R_alloc | apply Kd.R_drewN | apply Kd.R_drew)); exact HO_8.out⟩, ⟨by (with_reducible repeat (first | refine blk_drewN ?_ _ | refine blk_drew ?_ | refine blk_alloc ?_ _)); exact BK105.out⟩, ⟨by repeat (first | (with_reducible first | exact HB.out | apply below_alloc | apply pw_below_drewN | apply below_drew1 | refine below_set ?_ GE105.out) | exact HB.out)⟩⟩
     ·rw [if_neg c9] at H
      exact absurd H (by simp)
    ·rw [if_neg c8] at H
     exact absurd H (by simp)
   ·rw [if_neg c7] at H
    have c7b0 : decide (x10_1 < (t106.length : Int)) = false := decide_eq_false c7
    clear c7
    have H' := Aside0.mk H
    clear H
    have hcz12_0 : wr.cell? ⟨gb105, 0, none⟩ = some (.int .i64 a0_0) := (blk_cell BK105.out 0).trans rfl
    have hcz12_1 : wr.cell? ⟨gb105, 1, none⟩ = some (.int .i64 a0_1) := (blk_cell BK105.out 1).trans rfl
    have hcz12_2 : wr.cell? ⟨gb105, 2, none⟩ = some (.int .i64 a0_2) := (blk_cell BK105.out 2).trans rfl
    have hcz12_3 : wr.cell? ⟨gb105, 3, none⟩ = some (.int .i64 a0_3) := (blk_cell BK105.out 3).trans rfl
    have hcz12_4 : wr.cell? ⟨gb105, 4, none⟩ = some (.int .i64 a0_4) := (blk_cell BK105.out 4).trans rfl
    have hcz12_5 : wr.cell? ⟨gb105, 5, none⟩ = some (.int .i64 a0_5) := (blk_cell BK105.out 5).trans rfl
    have hcz12_6 : wr.cell? ⟨gb105, 6, none⟩ = some (.int .i64 a0_6) := (blk_cell BK105.out 6).trans rfl
    have hcz12_7 : wr.cell? ⟨gb105, 7, none⟩ = some (.int .i64 a0_7) := (blk_cell BK105.out 7).trans rfl
    have hcz12_8 : wr.cell? ⟨gb105, 8, none⟩ = some (.int .i64 a0_8) := (blk_cell BK105.out 8).trans rfl
    have hcz12_9 : wr.cell? ⟨gb105, 9, none⟩ = some (.int .i64 a0_9) := (blk_cell BK105.out 9).trans rfl
    have hcz12_10 : wr.cell? ⟨gb105, 10, none⟩ = some (.slice A0_10 l0_10.length c0_10) := (blk_cell BK105.out 10).trans rfl
    have hfz12_0 := blk_frozen BK105.out 0
    have hfz12_1 := blk_frozen BK105.out 1
    have hfz12_2 := blk_frozen BK105.out 2
    have hfz12_3 := blk_frozen BK105.out 3
    have hfz12_4 := blk_frozen BK105.out 4
    have hfz12_5 := blk_frozen BK105.out 5
    have hfz12_6 := blk_frozen BK105.out 6
    have hfz12_7 := blk_frozen BK105.out 7
    have hfz12_8 := blk_frozen BK105.out 8
    have hfz12_9 := blk_frozen BK105.out 9
    have hfz12_10 := blk_frozen BK105.out 10
    go_wp2
    go_loopg [24] k1 (fun kq v24 w' => ∃ (x24_2 : Int), v24 = .int .i64 x24_2 ∧ Aside0 (wire_Right.l1 kq l0_10 (l0_10.length : Int) x24_2 a0_0 a0_1 a0_2 a0_3 a0_4 a0_5 a0_6 a0_7 a0_8 a0_9 l0_10 = some r) ∧ Aside0 (kq ≤ k1) ∧ Aside0 (w'.heap[gb105]? = some (.cells #[.int .i64 a0_0, .int .i64 a0_1, .int .i64 a0_2, .int .i64 a0_3, .int .i64 a0_4, .int .i64 a0_5, .int .i64 a0_6, .int .i64 a0_7, .int .i64 a0_8, .int .i64 a0_9, (.slice A0_10 l0_10.length c0_10)] 32 (0, 0))) ∧ Aside0 (Below w.heap.size w w'))
    case atStart => exact ⟨(0), (by first | rfl | (simp; done) | (simp [*]; done)), H', ⟨Nat.le_refl _⟩, ⟨by (with_reducible repeat (first | refine blk_drewN ?_ _ | refine blk_drew ?_ | refine blk_alloc ?_ _)); exact BK105.out⟩, ⟨by repeat (first | (with_reducible first | exact HB.out | apply below_alloc | apply pw_below_drewN | apply below_drew1 | refine below_set ?_ GE105.out) | exact HB.out)⟩⟩
    case round =>
     clear H'
     try clear c1
     try clear p1
     try clear q1
     try clear hx1
     try clear c2
     try clear p2
     try clear c3
     try clear p6
     try clear c7
     try clear c7b0
     try clear c8
     try clear c8b0
     try clear c9
     try clear c9b0
     try clear c10
     try clear c10b0
     try clear p10
     try clear q10
     try clear hx10
     try clear c11
     try clear c11b0
     try clear hcz12_0
     try clear hcz12_1
     try clear hcz12_10
     try clear hcz12_2
     try clear hcz12_3
     try clear hcz12_4
     try clear hcz12_5
     try clear hcz12_6
     try clear hcz12_7
     try clear hcz12_8
     try clear hcz12_9
     try clear hcz4_0
     try clear hcz4_1
     try clear hcz4_10
     try clear hcz4_2
     try clear hcz4_3
     try clear hcz4_4
     try clear hcz4_5
     try clear hcz4_6
     try clear hcz4_7
     try clear hcz4_8
     try clear hcz4_9
     try clear hfz12_0
     try clear hfz12_1
     try clear hfz12_10
     try clear hfz12_2
     try clear hfz12_3
     try clear hfz12_4
     try clear hfz12_5
     try clear hfz12_6
     try clear hfz12_7
     try clear hfz12_8
     try clear hfz12_9
     try clear hfz4_0
     try clear hfz4_1
     try clear hfz4_10
     try clear hfz4_2
     try clear hfz4_3
     try clear hfz4_4
     try clear hfz4_5
     try clear hfz4_6
     try clear hfz4_7
     try clear hfz4_8
     try clear hfz4_9
     try clear hx109_0
     try clear p109
     try clear p2
     try clear q109
     obtain ⟨x24_2, rfl, HA, HK2, BK105, HB⟩ := hrel
     cases gk with
     | zero => exact absurd HA.out (by simp [wire_Right.l1])
     | succ k2 =>
      have H := HA.out
      clear HA
      simp only [wire_Right.l1] at H
      by_cases c13 : x24_2 < (l0_10.length : Int)
      ·rw [if_pos c13] at H
       have c13b0 : decide (x24_2 < (l0_10.length : Int)) = true := decide_eq_true c13
       clear c13
       by_cases c14 : 0 ≤ x24_2
       ·rw [if_pos c14] at H
        have c14b0 : decide (0 ≤ x24_2) = true := decide_eq_true c14
        clear c14
        by_cases c15 : x24_2 < (l0_10.length : Int)
        ·rw [if_pos c15] at H
         have c15b0 : decide (x24_2 < (l0_10.length : Int)) = true := decide_eq_true c15
         clear c15
         by_cases c16 : (rd l0_10 x24_2) < (-2147483648)
         ·rw [if_pos c16] at H
          have c16b0 : decide ((rd l0_10 x24_2) < (-2147483648)) = true := decide_eq_true c16
          clear c16
          obtain rfl := Option.some.inj H
          have p110 : 0 ≤ (x24_2 : Int) := of_decide_eq_true (by first | (with_reducible assumption) | assumption)
          have q110 : x24_2 < (l0_10.length : Int) := of_decide_eq_true (by first | (with_reducible assumption) | assumption)
          obtain ⟨ad110, e110, hx110_0⟩ := Kd.at_int HR0_10.out x24_2 p110 q110
          cases e110
          replace hx110_0 := (HB.out.cell (World.block_lt_of_cell? w _ hx110_0)).trans hx110_0
          replace p110 := eq_true p110
          replace q110 := eq_true q110
          go_wp2
          go_ret
          exact ⟨by first | rfl | (simp [errW_none, errW_some] <;> rfl) | (simp [*, errW_none, errW_some] <;> rfl), by repeat (first | (with_reducible first | exact HB.out | apply below_alloc | apply pw_below_drewN | apply below_drew1 | refine below_set ?_ GE105.out) | exact HB.out)⟩
         ·rw [if_neg c16] at H
          have c16b0 : decide ((rd l0_10 x24_2) < (-2147483648)) = false := decide_eq_false c16
          clear c16
          by_cases c17 : (rd l0_10 x24_2) > 2147483647
          ·rw [if_pos c17] at H
           have c17b0 : decide (2147483647 < (rd l0_10 x24_2)) = true := decide_eq_true c17
           clear c17
           obtain rfl := Option.some.inj H
           have p110 : 0 ≤ (x24_2 : Int) := of_decide_eq_true (by first | (with_reducible assumption) | assumption)
           have q110 : x24_2 < (l0_10.length : Int) := of_decide_eq_true (by first | (with_reducible assumption) | assumption)
           obtain ⟨ad110, e110, hx110_0⟩ := Kd.at_int HR0_10.out x24_2 p110 q110
           cases e110
           replace hx110_0 := (HB.out.cell (World.block_lt_of_cell? w _ hx110_0)).trans hx110_0
           replace p110 := eq_true p110
           replace q110 := eq_true q110
           go_wp2
           go_ret
           exact ⟨by first | rfl | (simp [errW_none, errW_some] <;> rfl) | (simp [*, errW_none, errW_some] <;> rfl), by repeat (first | (with_reducible first | exact HB.out | apply below_alloc | apply pw_below_drewN | apply below_drew1 | refine below_set ?_ GE105.out) | exact HB.out)⟩
          ·rw [if_neg c17] at H
           have c17b0 : decide (2147483647 < (rd l0_10 x24_2)) = false := decide_eq_false c17
           clear c17
           have H' := Aside0.mk H
           clear H
           have p110 : 0 ≤ (x24_2 : Int) := of_decide_eq_true (by first | (with_reducible assumption) | assumption)
           have q110 : x24_2 < (l0_10.length : Int) := of_decide_eq_true (by first | (with_reducible assumption) | assumption)
           obtain ⟨ad110, e110, hx110_0⟩ := Kd.at_int HR0_10.out x24_2 p110 q110
           cases e110
           replace hx110_0 := (HB.out.cell (World.block_lt_of_cell? w _ hx110_0)).trans hx110_0
           replace p110 := eq_true p110
           replace q110 := eq_true q110
           go_wp2
           go_roundg k2
           case measure => have := HK1.out; have := HK2.out; omega
           case rel => exact ⟨(wrap64 (x24_2 + 1)), (by first | rfl | (simp; done) | (simp [*]; done)), H', ⟨by have := HK1.out; have := HK2.out; omega⟩, ⟨by (with_reducible repeat (first | refine blk_drewN ?_ _ | refine blk_drew ?_ | refine blk_alloc ?_ _)); exact BK105.out⟩, ⟨by repeat (first | (with_reducible first | exact HB.out | apply below_alloc | apply pw_below_drewN | apply below_drew1 | refine below_set ?_ GE105.out) | exact HB.out)⟩⟩
        ·rw [if_neg c15] at H
         exact absurd H (by simp)
       ·rw [if_neg c14] at H
        exact absurd H (by simp)
      ·rw [if_neg c13] at H
       have c13b0 : decide (x24_2 < (l0_10.length : Int)) = false := decide_eq_false c13
       clear c13
       by_cases c18 : a0_0 ≥ 1
       ·rw [if_pos c18] at H
        have c18b0 : decide (1 ≤ a0_0) = true := decide_eq_true c18
        clear c18
        by_cases c19 : a0_0 ≤ 4
        ·rw [if_pos c19] at H
         have c19b0 : decide (a0_0 ≤ 4) = true := decide_eq_true c19
         clear c19
         obtain rfl := Option.some.inj H
         have hcz20_0 : wr.cell? ⟨gb105, 0, none⟩ = some (.int .i64 a0_0) := (blk_cell BK105.out 0).trans rfl
         have hcz20_1 : wr.cell? ⟨gb105, 1, none⟩ = some (.int .i64 a0_1) := (blk_cell BK105.out 1).trans rfl
         have hcz20_2 : wr.cell? ⟨gb105, 2, none⟩ = some (.int .i64 a0_2) := (blk_cell BK105.out 2).trans rfl
         have hcz20_3 : wr.cell? ⟨gb105, 3, none⟩ = some (.int .i64 a0_3) := (blk_cell BK105.out 3).trans rfl
         have hcz20_4 : wr.cell? ⟨gb105, 4, none⟩ = some (.int .i64 a0_4) := (blk_cell BK105.out 4).trans rfl
         have hcz20_5 : wr.cell? ⟨gb105, 5, none⟩ = some (.int .i64 a0_5) := (blk_cell BK105.out 5).trans rfl
         have hcz20_6 : wr.cell? ⟨gb105, 6, none⟩ = some (.int .i64 a0_6) := (blk_cell BK105.out 6).trans rfl
         have hcz20_7 : wr.cell? ⟨gb105, 7, none⟩ = some (.int .i64 a0_7) := (blk_cell BK105.out 7).trans rfl
         have hcz20_8 : wr.cell? ⟨gb105, 8, none⟩ = some (.int .i64 a0_8) := (blk_cell BK105.out 8).trans rfl
         have hcz20_9 : wr.cell? ⟨gb105, 9, none⟩ = some (.int .i64 a0_9) := (blk_cell BK105.out 9).trans rfl
         have hcz20_10 : wr.cell? ⟨gb105, 10, none⟩ = some (.slice A0_10 l0_10.length c0_10) := (blk_cell BK105.out 10).trans rfl
         have hfz20_0 := blk_frozen BK105.out 0
         have hfz20_1 := blk_frozen BK105.out 1
         have hfz20_2 := blk_frozen BK105.out 2
         have hfz20_3 := blk_frozen BK105.out 3
         have hfz20_4 := blk_frozen BK105.out 4
         have hfz20_5 := blk_frozen BK105.out 5
         have hfz20_6 := blk_frozen BK105.out 6
         have hfz20_7 := blk_frozen BK105.out 7
         have hfz20_8 := blk_frozen BK105.out 8
         have hfz20_9 := blk_frozen BK105.out 9
         have hfz20_10 := blk_frozen BK105.out 10
         go_wp2
         go_ret
         exact ⟨by first | rfl | (simp [errW_none, errW_some] <;> rfl) | (simp [*, errW_none, errW_some] <;> rfl), by repeat (first | (with_reducible first | exact HB.out | apply below_alloc | apply pw_below_drewN | apply below_drew1 | refine below_set ?_ GE105.out) | exact HB.out)⟩
        ·rw [if_neg c19] at H
         have c19b0 : decide (a0_0 ≤ 4) = false := decide_eq_false c19
         clear c19
         obtain rfl := Option.some.inj H
         have hcz21_0 : wr.cell? ⟨gb105, 0, none⟩ = some (.int .i64 a0_0) := (blk_cell BK105.out 0).trans rfl
         have hcz21_1 : wr.cell? ⟨gb105, 1, none⟩ = some (.int .i64 a0_1) := (blk_cell BK105.out 1).trans rfl
         have hcz21_2 : wr.cell? ⟨gb105, 2, none⟩ = some (.int .i64 a0_2) := (blk_cell BK105.out 2).trans rfl
         have hcz21_3 : wr.cell? ⟨gb105, 3, none⟩ = some (.int .i64 a0_3) := (blk_cell BK105.out 3).trans rfl
         have hcz21_4 : wr.cell? ⟨gb105, 4, none⟩ = some (.int .i64 a0_4) := (blk_cell BK105.out 4).trans rfl
         have hcz21_5 : wr.cell? ⟨gb105, 5, none⟩ = some (.int .i64 a0_5) := (blk_cell BK105.out 5).trans rfl
         have hcz21_6 : wr.cell? ⟨gb105, 6, none⟩ = some (.int .i64 a0_6) := (blk_cell BK105.out 6).trans rfl
         have hcz21_7 : wr.cell? ⟨gb105, 7, none⟩ = some (.int .i64 a0_7) := (blk_cell BK105.out 7).trans rfl
         have hcz21_8 : wr.cell? ⟨gb105, 8, none⟩ = some (.int .i64 a0_8) := (blk_cell BK105.out 8).trans rfl
         have hcz21_9 : wr.cell? ⟨gb105, 9, none⟩ = some (.int .i64 a0_9) := (blk_cell BK105.out 9).trans rfl
         have hcz21_10 : wr.cell? ⟨gb105, 10, none⟩ = some (.slice A0_10 l0_10.length c0_10) := (blk_cell BK105.out 10).trans rfl
         have hfz21_0 := blk_frozen BK105.out 0
         have hfz21_1 := blk_frozen BK105.out 1
         have hfz21_2 := blk_frozen BK105.out 2
         have hfz21_3 := blk_frozen BK105.out 3
         have hfz21_4 := blk_frozen BK105.out 4
         have hfz21_5 := blk_frozen BK105.out 5
         have hfz21_6 := blk_frozen BK105.out 6
         have hfz21_7 := blk_frozen BK105.out 7
         have hfz21_8 := blk_frozen BK105.out 8
         have hfz21_9 := blk_frozen BK105.out 9
         have hfz21_10 := blk_frozen BK105.out 10
         go_wp2
         go_ret
         exact ⟨by first | rfl | (simp [errW_none, errW_some] <;> rfl) | (simp [*, errW_none, errW_some] <;> rfl), by repeat (first | (with_reducible first | exact HB.out | apply below_alloc | apply pw_below_drewN | apply below_drew1 | refine below_set ?_ GE105.out) | exact HB.out)⟩
       ·rw [if_neg c18] at H
        have c18b0 : decide (1 ≤ a0_0) = false := decide_eq_false c18
        clear c18
        obtain rfl := Option.some.inj H
        have hcz22_0 : wr.cell? ⟨gb105, 0, none⟩ = some (.int .i64 a0_0) := (blk_cell BK105.out 0).trans rfl
        have hcz22_1 : wr.cell? ⟨gb105, 1, none⟩ = some (.int .i64 a0_1) := (blk_cell BK105.out 1).trans rfl
        have hcz22_2 : wr.cell? ⟨gb105, 2, none⟩ = some (.int .i64 a0_2) := (blk_cell BK105.out 2).trans rfl
        have hcz22_3 : wr.cell? ⟨gb105, 3, none⟩ = some (.int .i64 a0_3) := (blk_cell BK105.out 3).trans rfl
        have hcz22_4 : wr.cell? ⟨gb105, 4, none⟩ = some (.int .i64 a0_4) := (blk_cell BK105.out 4).trans rfl
        have hcz22_5 : wr.cell? ⟨gb105, 5, none⟩ = some (.int .i64 a0_5) := (blk_cell BK105.out 5).trans rfl
        have hcz22_6 : wr.cell? ⟨gb105, 6, none⟩ = some (.int .i64 a0_6) := (blk_cell BK105.out 6).trans rfl
        have hcz22_7 : wr.cell? ⟨gb105, 7, none⟩ = some (.int .i64 a0_7) := (blk_cell BK105.out 7).trans rfl
        have hcz22_8 : wr.cell? ⟨gb105, 8, none⟩ = some (.int .i64 a0_8) := (blk_cell BK105.out 8).trans rfl
        have hcz22_9 : wr.cell? ⟨gb105, 9, none⟩ = some (.int .i64 a0_9) := (blk_cell BK105.out 9).trans rfl
        have hcz22_10 : wr.cell? ⟨gb105, 10, none⟩ = some (.slice A0_10 l0_10.length c0_10) := (blk_cell BK105.out 10).trans rfl
        have hfz22_0 := blk_frozen BK105.out 0
        have hfz22_1 := blk_frozen BK105.out 1
        have hfz22_2 := blk_frozen BK105.out 2
        have hfz22_3 := blk_frozen BK105.out 3
        have hfz22_4 := blk_frozen BK105.out 4
        have hfz22_5 := blk_frozen BK105.out 5
        have hfz22_6 := blk_frozen BK105.out 6
        have hfz22_7 := blk_frozen BK105.out 7
        have hfz22_8 := blk_frozen BK105.out 8
        have hfz22_9 := blk_frozen BK105.out 9
        have hfz22_10 := blk_frozen BK105.out 10
        go_wp2
        go_ret
        exact ⟨by first | rfl | (simp [errW_none, errW_some] <;> rfl) | (simp [*, errW_none, errW_some] <;> rfl), by repeat (first | (with_reducible first | exact HB.out | apply below_alloc | apply pw_below_drewN | apply below_drew1 | refine below_set ?_ GE105.out) | exact HB.out)⟩

end
end Go.Proofs.Ytgfpkhihdahjlab.QWire
