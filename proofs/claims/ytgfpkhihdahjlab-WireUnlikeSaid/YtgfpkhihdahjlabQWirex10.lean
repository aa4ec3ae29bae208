-- Printed by a program of this session's own (wip/gen), which turns the kit's printer; not one of the kit's printed texts.
import Derived.Test.YtgfpkhihdahjlabQWirex0
import Derived.Test.YtgfpkhihdahjlabQWirex9
namespace Go.Proofs.Ytgfpkhihdahjlab.QWire
open Go.RowKit Go.Proofs.Ytgfpkhihdahjlab.Given Go.Proofs.YtgfpkhihdahjlabW.PrintWords Go.Proofs.YtgfpkhihdahjlabW.PrintLast Go.Proofs.YtgfpkhihdahjlabW.PrintMore
attribute [local go_sem] max2_int min2_int max_two min_two max_three min_three max_four min_four   -- for this text's walks alone
set_option linter.unusedVariables false
set_option linter.unusedSimpArgs false
noncomputable section

/-! ### switchboardref07_Right: function 20 -/
def switchboardref07_Right.l0 : Nat → List Int → Int → Int → Int → Int → Int → Int → Int → Int → Int → Int → Int → List Int → Option (Bool)
 | 0, _, _, _, _, _, _, _, _, _, _, _, _, _ => none
 | k + 1, x3, x4, x204000, x204001, x204002, x204003, x204004, x204005, x204006, x204007, x204008, x204009, x204010 => if x4 < (x3.length : Int) then (if 0 ≤ x4 then (if (rd x3 x4) > 2147483647 then (some false) else (if (rd x3 x4) < (-2147483648) then (some false) else (if x4 < 11 then (if (rd x3 x4) < 0 then (some false) else (switchboardref07_Right.l0 k x3 (wrap64 (x4 + 1)) x204000 x204001 x204002 x204003 x204004 x204005 x204006 x204007 x204008 x204009 x204010)) else (switchboardref07_Right.l0 k x3 (wrap64 (x4 + 1)) x204000 x204001 x204002 x204003 x204004 x204005 x204006 x204007 x204008 x204009 x204010)))) else (none)) else (if x204000 > 0 then (if x204000 < 5 then (some (decide ((x204010.length : Int) < 9))) else (some false)) else (some false))
def switchboardref07_Right.f (k : Nat) (a0_0 : Int) (a0_1 : Int) (a0_2 : Int) (a0_3 : Int) (a0_4 : Int) (a0_5 : Int) (a0_6 : Int) (a0_7 : Int) (a0_8 : Int) (a0_9 : Int) (l0_10 : List Int) : Option (Bool) := (switchboardref07_List.f a0_0 a0_1 a0_2 a0_3 a0_4 a0_5 a0_6 a0_7 a0_8 a0_9 l0_10).bind fun t204 => (switchboardref07_Right.l0 k t204 0 a0_0 a0_1 a0_2 a0_3 a0_4 a0_5 a0_6 a0_7 a0_8 a0_9 l0_10)
theorem switchboardref07_Right.mono_l : ∀ k, (∀ y0 y1 y2 y3 y4 y5 y6 y7 y8 y9 y10 y11 y12, LeO (switchboardref07_Right.l0 k y0 y1 y2 y3 y4 y5 y6 y7 y8 y9 y10 y11 y12) (switchboardref07_Right.l0 (k + 1) y0 y1 y2 y3 y4 y5 y6 y7 y8 y9 y10 y11 y12))
 | 0 => fun _ _ _ _ _ _ _ _ _ _ _ _ _ r h => by simp [switchboardref07_Right.l0] at h
 | k + 1 => by
  have ih0 := switchboardref07_Right.mono_l k
  ·intro y0 y1 y2 y3 y4 y5 y6 y7 y8 y9 y10 y11 y12
   unfold switchboardref07_Right.l0
   repeat' first
   | (with_reducible exact ih0 _ _ _ _ _ _ _ _ _ _ _ _ _)
   | (with_reducible exact LeO.refl _)
   | (with_reducible exact LeO.none _)
   | (with_reducible refine LeO.ite ?_ ?_)
   | (with_reducible refine LeO.bind ?_ (fun _ => ?_))
   | exact ih0 _ _ _ _ _ _ _ _ _ _ _ _ _
   | exact LeO.none _
   | refine LeO.ite ?_ ?_
   | refine LeO.bind ?_ (fun _ => ?_)
theorem switchboardref07_Right.mono : ∀ a0 a1 a2 a3 a4 a5 a6 a7 a8 a9 a10 k, LeO (switchboardref07_Right.f k a0 a1 a2 a3 a4 a5 a6 a7 a8 a9 a10) (switchboardref07_Right.f (k + 1) a0 a1 a2 a3 a4 a5 a6 a7 a8 a9 a10) := by
 intro a0 a1 a2 a3 a4 a5 a6 a7 a8 a9 a10 k
 have ih0 := switchboardref07_Right.mono_l k
 unfold switchboardref07_Right.f
 repeat' first
   | (with_reducible exact ih0 _ _ _ _ _ _ _ _ _ _ _ _ _)
   | (with_reducible exact LeO.refl _)
   | (with_reducible exact LeO.none _)
   | (with_reducible refine LeO.ite ?_ ?_)
   | (with_reducible refine LeO.bind ?_ (fun _ => ?_))
   | exact ih0 _ _ _ _ _ _ _ _ _ _ _ _ _
   | exact LeO.none _
   | refine LeO.ite ?_ ?_
   | refine LeO.bind ?_ (fun _ => ?_)
set_option maxHeartbeats 8000000 in
set_option maxRecDepth 100000 in
theorem switchboardref07_Right.calls (k : Nat) (a0_0 : Int) (a0_1 : Int) (a0_2 : Int) (a0_3 : Int) (a0_4 : Int) (a0_5 : Int) (a0_6 : Int) (a0_7 : Int) (a0_8 : Int) (a0_9 : Int) (A0_10 : Option Addr) (c0_10 : Nat) (l0_10 : List Int) (r : Bool) (w : World) (hr0_10 : Kd.C (Kd.int .i64) w A0_10 l0_10.length l0_10) (hc0_10 : l0_10.length ≤ c0_10) (h : switchboardref07_Right.f k a0_0 a0_1 a0_2 a0_3 a0_4 a0_5 a0_6 a0_7 a0_8 a0_9 l0_10 = some r) :
  Calls Try.prog 20 #[.agg #[.int .i64 a0_0, .int .i64 a0_1, .int .i64 a0_2, .int .i64 a0_3, .int .i64 a0_4, .int .i64 a0_5, .int .i64 a0_6, .int .i64 a0_7, .int .i64 a0_8, .int .i64 a0_9, .slice A0_10 l0_10.length c0_10]] w fun e w' => e = .returned (.bool r) ∧ Below w.heap.size w w' := by
 have hu32 := Try.underlying32
 have HR0_10 := Aside0.mk hr0_10
 have HC0_10 := Aside0.mk hc0_10
 clear hr0_10 hc0_10
 have HB := Aside0.mk (Below.refl w.heap.size w)
 have H : ((switchboardref07_List.f a0_0 a0_1 a0_2 a0_3 a0_4 a0_5 a0_6 a0_7 a0_8 a0_9 l0_10).bind fun t204 => (switchboardref07_Right.l0 k t204 0 a0_0 a0_1 a0_2 a0_3 a0_4 a0_5 a0_6 a0_7 a0_8 a0_9 l0_10)) = some r := h
 clear h
 replace H := Option.bind_eq_some_iff.mp H
 obtain ⟨t204, A20, H⟩ := H
 replace H : (switchboardref07_Right.l0 k t204 0 a0_0 a0_1 a0_2 a0_3 a0_4 a0_5 a0_6 a0_7 a0_8 a0_9 l0_10) = some r := H
 have A2 := Aside0.mk A20
 clear A20
 have H' := Aside0.mk H
 clear H
 go_enter Try.func20, Try.ntmps20
 go_wp2_with (first | ((with_reducible refine gate_dst (N := 1) rfl ?_); (try (refine gate_guard (by rfl) ?_; dsimp only)); refine box_event ?hg (N := 1) ?hd (cs := #[.int .i64 a0_0, .int .i64 a0_1, .int .i64 a0_2, .int .i64 a0_3, .int .i64 a0_4, .int .i64 a0_5, .int .i64 a0_6, .int .i64 a0_7, .int .i64 a0_8, .int .i64 a0_9, .slice A0_10 l0_10.length c0_10]) (t := 32) ?hr ?_; (case hd => rfl); (case hg => rfl); (case hr => first | (go_simp; done) | (go_simp; rfl)); intro gb203 hg w3 hbox hb; have n0_ := Aside0.mk (below_step (by repeat (first | (with_reducible first | exact HB.out | apply below_alloc | apply pw_below_drewN | apply below_drew1) | exact HB.out)) hb); have n1_ := Aside0.mk (hbox); have n2_ := Aside0.mk ((by rw [hg]; exact (below_size (by repeat (first | (with_reducible first | exact HB.out | apply below_alloc | apply pw_below_drewN | apply below_drew1) | exact HB.out))) : w.heap.size ≤ gb203)); have n3_ := Aside0.mk ((by rw [hg]; exact (below_size (by repeat (first | (with_reducible first | exact HB.out | apply below_alloc | apply pw_below_drewN | apply below_drew1) | exact HB.out))) : w.heap.size ≤ gb203)); clear HB; have HB := n0_; have BK203 := n1_; have GW203 := n2_; have GE203 := n3_; clear n0_ n1_ n2_ n3_; clear hb hbox hg; have hcz4_0 : w3.cell? ⟨gb203, 0, none⟩ = some (.int .i64 a0_0) := (blk_cell BK203.out 0).trans rfl; have hcz4_1 : w3.cell? ⟨gb203, 1, none⟩ = some (.int .i64 a0_1) := (blk_cell BK203.out 1).trans rfl; have hcz4_2 : w3.cell? ⟨gb203, 2, none⟩ = some (.int .i64 a0_2) := (blk_cell BK203.out 2).trans rfl; have hcz4_3 : w3.cell? ⟨gb203, 3, none⟩ = some (.int .i64 a0_3) := (blk_cell BK203.out 3).trans rfl; have hcz4_4 : w3.cell? ⟨gb203, 4, none⟩ = some (.int .i64 a0_4) := (blk_cell BK203.out 4).trans rfl; have hcz4_5 : w3.cell? ⟨gb203, 5, none⟩ = some (.int .i64 a0_5) := (blk_cell BK203.out 5).trans rfl; have hcz4_6 : w3.cell? ⟨gb203, 6, none⟩ = some (.int .i64 a0_6) := (blk_cell BK203.out 6).trans rfl; have hcz4_7 : w3.cell? ⟨gb203, 7, none⟩ = some (.int .i64 a0_7) := (blk_cell BK203.out 7).trans rfl; have hcz4_8 : w3.cell? ⟨gb203, 8, none⟩ = some (.int .i64 a0_8) := (blk_cell BK203.out 8).trans rfl; have hcz4_9 : w3.cell? ⟨gb203, 9, none⟩ = some (.int .i64 a0_9) := (blk_cell BK203.out 9).trans rfl; have hcz4_10 : w3.cell? ⟨gb203, 10, none⟩ = some (.slice A0_10 l0_10.length c0_10) := (blk_cell BK203.out 10).trans rfl; have hfz4_0 := blk_frozen BK203.out 0; have hfz4_1 := blk_frozen BK203.out 1; have hfz4_2 := blk_frozen BK203.out 2; have hfz4_3 := blk_frozen BK203.out 3; have hfz4_4 := blk_frozen BK203.out 4; have hfz4_5 := blk_frozen BK203.out 5; have hfz4_6 := blk_frozen BK203.out 6; have hfz4_7 := blk_frozen BK203.out 7; have hfz4_8 := blk_frozen BK203.out 8; have hfz4_9 := blk_frozen BK203.out 9; have hfz4_10 := blk_frozen BK203.out 10) | ((with_reducible refine gate_callee (f := 26) rfl ?_); refine goesL_ (some 6) rfl rfl Try.func26 (by kernel_rfl) rfl #[.agg #[.int .i64 a0_0, .int .i64 a0_1, .int .i64 a0_2, .int .i64 a0_3, .int .i64 a0_4, .int .i64 a0_5, .int .i64 a0_6, .int .i64 a0_7, .int .i64 a0_8, .int .i64 a0_9, .slice A0_10 l0_10.length c0_10]] rfl (by (try simp only [List.map_toArray, List.map_cons, List.map_nil]); first | done | rfl | (simp only [ByteArray.size_append, Int.natCast_add, List.length_drop, List.length_take]; first | done | rfl) | (simp only [List.length_drop, List.length_take]; rfl)) ?_; (with_reducible refine (switchboardref07_List.calls a0_0 a0_1 a0_2 a0_3 a0_4 a0_5 a0_6 a0_7 a0_8 a0_9 _ _ l0_10 t204 _ ?side1 ?side2 A2.out).mono ?_); (case side1 => repeat (first | exact (Kd.C_below HR0_10.out HB.out) | (with_reducible refine Kd.C_alloc ?_ _) | (with_reducible refine Kd.C_drewN ?_ _) | (with_reducible refine Kd.C_drew ?_))); (case side2 => exact HC0_10.out); rintro e w5 ⟨v205, rfl, ho0, hb⟩; refine ⟨_, rfl, ?_⟩; have n0_ := Aside0.mk (Kd.R_lower ho0 (below_size (by repeat (first | (with_reducible first | exact HB.out | apply below_alloc | apply pw_below_drewN | apply below_drew1 | refine below_set ?_ GE203.out) | exact HB.out)))); have n1_ := Aside0.mk (blk_below (g := gb203) (o := .cells #[.int .i64 a0_0, .int .i64 a0_1, .int .i64 a0_2, .int .i64 a0_3, .int .i64 a0_4, .int .i64 a0_5, .int .i64 a0_6, .int .i64 a0_7, .int .i64 a0_8, .int .i64 a0_9, .slice A0_10 l0_10.length c0_10] 32 (0, 0)) (by (with_reducible repeat (first | refine blk_drewN ?_ _ | refine blk_drew ?_ | refine blk_alloc ?_ _)); exact BK203.out) hb); have n2_ := Aside0.mk (below_step (by repeat (first | (with_reducible first | exact HB.out | apply below_alloc | apply pw_below_drewN | apply below_drew1 | refine below_set ?_ GE203.out) | exact HB.out)) hb); clear BK203; clear HB; have HO206 := n0_; have BK203 := n1_; have HB := n2_; clear n0_ n1_ n2_; (try clear hb); (try clear hb2); (try clear hk); (try clear hi); (try clear ho0)))
 go_loopg [4] k (fun kq v4 w' => ∃ (x4_1 : Int), v4 = .int .i64 x4_1 ∧ Aside0 (switchboardref07_Right.l0 kq t204 x4_1 a0_0 a0_1 a0_2 a0_3 a0_4 a0_5 a0_6 a0_7 a0_8 a0_9 l0_10 = some r) ∧ Aside0 (kq ≤ k) ∧ Aside0 (Kd.R (Kd.int .i64) 3 w' w.heap.size (fun _ => True) v205 t204) ∧ Aside0 (w'.heap[gb203]? = some (.cells #[.int .i64 a0_0, .int .i64 a0_1, .int .i64 a0_2, .int .i64 a0_3, .int .i64 a0_4, .int .i64 a0_5, .int .i64 a0_6, .int .i64 a0_7, .int .i64 a0_8, .int .i64 a0_9, (.slice A0_10 l0_10.length c0_10)] 32 (0, 0))) ∧ Aside0 (Below w.heap.size w w'))
 case atStart => exact ⟨(0), (by first | rfl | (simp; done) | (simp [*]; done)), H', ⟨Nat.le_refl _⟩, ⟨by (with_reducible repeat (first | apply Kd.R_alloc | apply Kd.R_drewN | apply Kd.R_drew)); exact HO206.out⟩, ⟨by (with_reducible repeat (first | refine blk_drewN ?_ _ | refine blk_drew ?_ | refine blk_alloc ?_ _)); exact BK203.out⟩, ⟨by repeat (first | (with_reducible first | exact HB.out | apply below_alloc | apply pw_below_drewN | apply below_drew1 | refine below_set ?_ GE203.out) | exact HB.out)⟩⟩
 case round =>
  clear H'
  try clear c2
  try clear p2
  try clear hcz4_0
  try clear hcz4_1
  try clear hcz4_10
  try clear hcz4_2
  try clear hcz4_3
  try clear hcz4_4
  try clear hcz4_5
  try clear hcz4_6
  try clear hcz4_7
  try clear hcz4_8
  try clear hcz4_9
  try clear hfz4_0
  try clear hfz4_1
  try clear hfz4_10
  try clear hfz4_2
  try clear hfz4_3
  try clear hfz4_4
  try clear hfz4_5
  try clear hfz4_6
  try clear hfz4_7
  try clear hfz4_8
  try clear hfz4_9
  obtain ⟨x4_1, rfl, HA, HK1, HO_3, BK203, HB⟩ := hrel
  cases gk with
  | zero => exact absurd HA.out (by simp [switchboardref07_Right.l0])
  | succ k1 =>
   have H := HA.out
   clear HA
   simp only [switchboardref07_Right.l0] at H
   by_cases c6 : x4_1 < (t204.length : Int)
   ·rw [if_pos c6] at H
    have c6b0 : decide (x4_1 < (t204.length : Int)) = true := decide_eq_true c6
    clear c6
    by_cases c7 : 0 ≤ x4_1
    ·rw [if_pos c7] at H
     have c7b0 : decide (0 ≤ x4_1) = true := decide_eq_true c7
     clear c7
     by_cases c8 : (rd t204 x4_1) > 2147483647
     ·rw [if_pos c8] at H
      have c8b0 : decide (2147483647 < (rd t204 x4_1)) = true := decide_eq_true c8
      clear c8
      obtain rfl := Option.some.inj H
      obtain ⟨Ao9, co9, eo9⟩ := Kd.R_slice HO_3.out
      subst eo9
      have p207 : 0 ≤ (x4_1 : Int) := of_decide_eq_true (by first | (with_reducible assumption) | assumption)
      have q207 : x4_1 < (t204.length : Int) := of_decide_eq_true (by first | (with_reducible assumption) | assumption)
      obtain ⟨ad207, e207, hx207_0⟩ := Kd.at_int (Kd.R_reads' HO_3.out).2.2 x4_1 p207 q207
      cases e207
      replace p207 := eq_true p207
      replace q207 := eq_true q207
      go_wp2
      go_ret
      exact ⟨by first | rfl | (simp [errW_none, errW_some] <;> rfl) | (simp [*, errW_none, errW_some] <;> rfl), by repeat (first | (with_reducible first | exact HB.out | apply below_alloc | apply pw_below_drewN | apply below_drew1 | refine below_set ?_ GE203.out) | exact HB.out)⟩
     ·rw [if_neg c8] at H
      have c8b0 : decide (2147483647 < (rd t204 x4_1)) = false := decide_eq_false c8
      clear c8
      by_cases c10 : (rd t204 x4_1) < (-2147483648)
      ·rw [if_pos c10] at H
       have c10b0 : decide ((rd t204 x4_1) < (-2147483648)) = true := decide_eq_true c10
       clear c10
       obtain rfl := Option.some.inj H
       obtain ⟨Ao11, co11, eo11⟩ := Kd.R_slice HO_3.out
       subst eo11
       have p207 : 0 ≤ (x4_1 : Int) := of_decide_eq_true (by first | (with_reducible assumption) | assumption)
       have q207 : x4_1 < (t204.length : Int) := of_decide_eq_true (by first | (with_reducible assumption) | assumption)
       obtain ⟨ad207, e207, hx207_0⟩ := Kd.at_int (Kd.R_reads' HO_3.out).2.2 x4_1 p207 q207
       cases e207
       replace p207 := eq_true p207
       replace q207 := eq_true q207
       have p208 : 0 ≤ (x4_1 : Int) := of_decide_eq_true (by first | (with_reducible assumption) | assumption)
       have q208 : x4_1 < (t204.length : Int) := of_decide_eq_true (by first | (with_reducible assumption) | assumption)
       obtain ⟨ad208, e208, hx208_0⟩ := Kd.at_int (Kd.R_reads' HO_3.out).2.2 x4_1 p208 q208
       obtain rfl : ad207 = ad208 := (by injection e208)
       replace p208 := eq_true p208
       replace q208 := eq_true q208
       go_wp2
       go_ret
       exact ⟨by first | rfl | (simp [errW_none, errW_some] <;> rfl) | (simp [*, errW_none, errW_some] <;> rfl), by repeat (first | (with_reducible first | exact HB.out | apply below_alloc | apply pw_below_drewN | apply below_drew1 | refine below_set ?_ GE203.out) | exact HB.out)⟩
      ·rw [if_neg c10] at H
       have c10b0 : decide ((rd t204 x4_1) < (-2147483648)) = false := decide_eq_false c10
       clear c10
       by_cases c12 : x4_1 < 11
       ·rw [if_pos c12] at H
        have c12b0 : decide (x4_1 < 11) = true := decide_eq_true c12
        clear c12
        by_cases c13 : (rd t204 x4_1) < 0
        ·rw [if_pos c13] at H
         have c13b0 : decide ((rd t204 x4_1) < 0) = true := decide_eq_true c13
         clear c13
         obtain rfl := Option.some.inj H
         obtain ⟨Ao14, co14, eo14⟩ := Kd.R_slice HO_3.out
         subst eo14
         have p207 : 0 ≤ (x4_1 : Int) := of_decide_eq_true (by first | (with_reducible assumption) | assumption)
         have q207 : x4_1 < (t204.length : Int) := of_decide_eq_true (by first | (with_reducible assumption) | assumption)
         obtain ⟨ad207, e207, hx207_0⟩ := Kd.at_int (Kd.R_reads' HO_3.out).2.2 x4_1 p207 q207
         cases e207
         replace p207 := eq_true p207
         replace q207 := eq_true q207
         have p208 : 0 ≤ (x4_1 : Int) := of_decide_eq_true (by first | (with_reducible assumption) | assumption)
         have q208 : x4_1 < (t204.length : Int) := of_decide_eq_true (by first | (with_reducible assumption) | assumption)
         obtain ⟨ad208, e208, hx208_0⟩ := Kd.at_int (Kd.R_reads' HO_3.out).2.2 x4_1 p208 q208
         obtain rfl : ad207 = ad208 := (by injection e208)
         replace p208 := eq_true p208
         replace q208 := eq_true q208
         have p209 : 0 ≤ (x4_1 : Int) := of_decide_eq_true (by first | (with_reducible assumption) | assumption)
         have q209 : x4_1 < (t204.length : Int) := of_decide_eq_true (by first | (with_reducible assumption) | assumption)
         obtain ⟨ad209, e209, hx209_0⟩ := Kd.at_int (Kd.R_reads' HO_3.out).2.2 x4_1 p209 q209
         obtain rfl : ad207 = ad209 := (by injection e209)
         replace p209 := eq_true p209
         replace q209 := eq_true q209
         go_wp2
         go_ret
         exact ⟨by first | rfl | (simp [errW_none, errW_some] <;> rfl) | (simp [*, errW_none, errW_some] <;> rfl), by repeat (first | (with_reducible first | exact HB.out | apply below_alloc | apply pw_below_drewN | apply below_drew1 | refine below_set ?_ GE203.out) | exact HB.out)⟩
        ·rw [if_neg c13] at H
         have c13b0 : decide ((rd t204 x4_1) < 0) = false := decide_eq_false c13
         clear c13
         have H' := Aside0.mk H
         clear H
         obtain ⟨Ao15, co15, eo15⟩ := Kd.R_slice HO_3.out
         subst eo15
         have p207 : 0 ≤ (x4_1 : Int) := of_decide_eq_true (by first | (with_reducible assumption) | assumption)
         have q207 : x4_1 < (t204.length : Int) := of_decide_eq_true (by first | (with_reducible assumption) | assumption)
         obtain ⟨ad207, e207, hx207_0⟩ := Kd.at_int (Kd.R_reads' HO_3.out).2.2 x4_1 p207 q207
         cases e207
         replace p207 := eq_true p207
         replace q207 := eq_true q207
         have p208 : 0 ≤ (x4_1 : Int) := of_decide_eq_true (by first | (with_reducible assumption) | assumption)
         have q208 : x4_1 < (t204.length : Int) := of_decide_eq_true (by first | (with_reducible assumption) | assumption)
         obtain ⟨ad208, e208, hx208_0⟩ := Kd.at_int (Kd.R_reads' HO_3.out).2.2 x4_1 p208 q208
         obtain rfl : ad207 = ad208 := (by injection e208)
         replace p208 := eq_true p208
         replace q208 := eq_true q208
         have p209 : 0 ≤ (x4_1 : Int) := of_decide_eq_true (by first | (with_reducible assumption) | assumption)
         have q209 : x4_1 < (t204.length : Int) := of_decide_eq_true (by first | (with_reducible assumption) | assumption)
         obtain ⟨ad209, e209, hx209_0⟩ := Kd.at_int (Kd.R_reads' HO_3.out).2.2 x4_1 p209 q209
         obtain rfl : ad207 = ad209 := (by injection e209)
         replace p209 := eq_true p209
         replace q209 := eq_true q209
         go_wp2
         go_roundg k1
         case measure => have := HK1.out; omega
         case rel => exact ⟨(wrap64 (x4_1 + 1)), (by first | rfl | (simp; done) | (simp [*]; done)), H', ⟨by have := HK1.out; omega⟩, ⟨by (with_reducible repeat (first | apply Kd.R_alloc | apply Kd.R_drewN | apply Kd.R_drew)); exact HO_3.out⟩, ⟨by (with_reducible repeat (first | refine blk_drewN ?_ _ | refine blk_drew ?_ | refine blk_alloc ?_ _)); exact BK203.out⟩, ⟨by repeat (first | (with_reducible first | exact HB.out | apply below_alloc | apply pw_below_drewN | apply below_drew1 | refine below_set ?_ GE203.out) | exact HB.out)⟩⟩
       ·rw [if_neg c12] at H
        have c12b0 : decide (x4_1 < 11) = false := decide_eq_false c12
        clear c12
        have H' := Aside0.mk H
        clear H
        obtain ⟨Ao16, co16, eo16⟩ := Kd.R_slice HO_3.out
        subst eo16
        have p207 : 0 ≤ (x4_1 : Int) := of_decide_eq_true (by first | (with_reducible assumption) | assumption)
        have q207 : x4_1 < (t204.length : Int) := of_decide_eq_true (by first | (with_reducible assumption) | assumption)
        obtain ⟨ad207, e207, hx207_0⟩ := Kd.at_int (Kd.R_reads' HO_3.out).2.2 x4_1 p207 q207
        cases e207
        replace p207 := eq_true p207
        replace q207 := eq_true q207
        have p208 : 0 ≤ (x4_1 : Int) := of_decide_eq_true (by first | (with_reducible assumption) | assumption)
        have q208 : x4_1 < (t204.length : Int) := of_decide_eq_true (by first | (with_reducible assumption) | assumption)
        obtain ⟨ad208, e208, hx208_0⟩ := Kd.at_int (Kd.R_reads' HO_3.out).2.2 x4_1 p208 q208
        obtain rfl : ad207 = ad208 := (by injection e208)
        replace p208 := eq_true p208
        replace q208 := eq_true q208
        go_wp2
        go_roundg k1
        case measure => have := HK1.out; omega
        case rel => exact ⟨(wrap64 (x4_1 + 1)), (by first | rfl | (simp; done) | (simp [*]; done)), H', ⟨by have := HK1.out; omega⟩, ⟨by (with_reducible repeat (first | apply Kd.R_alloc | apply Kd.R_drewN | apply Kd.R_drew)); exact HO_3.out⟩, ⟨by (with_reducible repeat (first | refine blk_drewN ?_ _ | refine blk_drew ?_ | refine blk_alloc ?_ _)); exact BK203.out⟩, ⟨by repeat (first | (with_reducible first | exact HB.out | apply below_alloc | apply pw_below_drewN | apply below_drew1 | refine below_set ?_ GE203.out) | exact HB.out)⟩⟩
    ·rw [if_neg c7] at H
     exact absurd H (by simp)
   ·rw [if_neg c6] at H
    have c6b0 : decide (x4_1 < (t204.length : Int)) = false := decide_eq_false c6
    clear c6
    by_cases c17 : a0_0 > 0
    ·rw [if_pos c17] at H
     have c17b0 : decide (0 < a0_0) = true := decide_eq_true c17
     clear c17
     by_cases c18 : a0_0 < 5
     ·rw [if_pos c18] at H
      have c18b0 : decide (a0_0 < 5) = true := decide_eq_true c18
      clear c18
      obtain rfl := Option.some.inj H
      obtain ⟨Ao19, co19, eo19⟩ := Kd.R_slice HO_3.out
      subst eo19
      have hcz20_0 : wr.cell? ⟨gb203, 0, none⟩ = some (.int .i64 a0_0) := (blk_cell BK203.out 0).trans rfl
      have hcz20_1 : wr.cell? ⟨gb203, 1, none⟩ = some (.int .i64 a0_1) := (blk_cell BK203.out 1).trans rfl
      have hcz20_2 : wr.cell? ⟨gb203, 2, none⟩ = some (.int .i64 a0_2) := (blk_cell BK203.out 2).trans rfl
      have hcz20_3 : wr.cell? ⟨gb203, 3, none⟩ = some (.int .i64 a0_3) := (blk_cell BK203.out 3).trans rfl
      have hcz20_4 : wr.cell? ⟨gb203, 4, none⟩ = some (.int .i64 a0_4) := (blk_cell BK203.out 4).trans rfl
      have hcz20_5 : wr.cell? ⟨gb203, 5, none⟩ = some (.int .i64 a0_5) := (blk_cell BK203.out 5).trans rfl
      have hcz20_6 : wr.cell? ⟨gb203, 6, none⟩ = some (.int .i64 a0_6) := (blk_cell BK203.out 6).trans rfl
      have hcz20_7 : wr.cell? ⟨gb203, 7, none⟩ = some (.int .i64 a0_7) := (blk_cell BK203.out 7).trans rfl
      have hcz20_8 : wr.cell? ⟨gb203, 8, none⟩ = some (.int .i64 a0_8) := (blk_cell BK203.out 8).trans rfl
      have hcz20_9 : wr.cell? ⟨gb203, 9, none⟩ = some (.int .i64 a0_9) := (blk_cell BK203.out 9).trans rfl
      have hcz20_10 : wr.cell? ⟨gb203, 10, none⟩ = some (.slice A0_10 l0_10.length c0_10) := (blk_cell BK203.out 10).trans rfl
      have hfz20_0 := blk_frozen BK203.out 0
      have hfz20_1 := blk_frozen BK203.out 1
      have hfz20_2 := blk_frozen BK203.out 2
      have hfz20_3 := blk_frozen BK203.out 3
      have hfz20_4 := blk_frozen BK203.out 4
      have hfz20_5 := blk_frozen BK203.out 5
      have hfz20_6 := blk_frozen BK203.out 6
      have hfz20_7 := blk_frozen BK203.out 7
      have hfz20_8 := blk_frozen BK203.out 8
      have hfz20_9 := blk_frozen BK203.out 9
      have hfz20_10 := blk_frozen BK203.out 10
      go_wp2
      go_ret
      exact ⟨by first | rfl | (simp [errW_none, errW_some] <;> rfl) | (simp [*, errW_none, errW_some] <;> rfl), by repeat (first | (with_reducible first | exact HB.out | apply below_alloc | apply pw_below_drewN | apply below_drew1 | refine below_set ?_ GE203.out) | exact HB.out)⟩
     ·rw [if_neg c18] at H
      have c18b0 : decide (a0_0 < 5) = false := decide_eq_false c18
      clear c18
      obtain rfl := Option.some.inj H
      obtain ⟨Ao21, co21, eo21⟩ := Kd.R_slice HO_3.out
      subst eo21
      have hcz22_0 : wr.cell? ⟨gb203, 0, none⟩ = some (.int .i64 a0_0) := (blk_cell BK203.out 0).trans rfl
      have hcz22_1 : wr.cell? ⟨gb203, 1, none⟩ = some (.int .i64 a0_1) := (blk_cell BK203.out 1).trans rfl
      have hcz22_2 : wr.cell? ⟨gb203, 2, none⟩ = some (.int .i64 a0_2) := (blk_cell BK203.out 2).trans rfl
      have hcz22_3 : wr.cell? ⟨gb203, 3, none⟩ = some (.int .i64 a0_3) := (blk_cell BK203.out 3).trans rfl
      have hcz22_4 : wr.cell? ⟨gb203, 4, none⟩ = some (.int .i64 a0_4) := (blk_cell BK203.out 4).trans rfl
      have hcz22_5 : wr.cell? ⟨gb203, 5, none⟩ = some (.int .i64 a0_5) := (blk_cell BK203.out 5).trans rfl
      have hcz22_6 : wr.cell? ⟨gb203, 6, none⟩ = some (.int .i64 a0_6) := (blk_cell BK203.out 6).trans rfl
      have hcz22_7 : wr.cell? ⟨gb203, 7, none⟩ = some (.int .i64 a0_7) := (blk_cell BK203.out 7).trans rfl
      have hcz22_8 : wr.cell? ⟨gb203, 8, none⟩ = some (.int .i64 a0_8) := (blk_cell BK203.out 8).trans rfl
      have hcz22_9 : wr.cell? ⟨gb203, 9, none⟩ = some (.int .i64 a0_9) := (blk_cell BK203.out 9).trans rfl
      have hcz22_10 : wr.cell? ⟨gb203, 10, none⟩ = some (.slice A0_10 l0_10.length c0_10) := (blk_cell BK203.out 10).trans rfl
      have hfz22_0 := blk_frozen BK203.out 0
      have hfz22_1 := blk_frozen BK203.out 1
      have hfz22_2 := blk_frozen BK203.out 2
      have hfz22_3 := blk_frozen BK203.out 3
      have hfz22_4 := blk_frozen BK203.out 4
      have hfz22_5 := blk_frozen BK203.out 5
      have hfz22_6 := blk_frozen BK203.out 6
      have hfz22_7 := blk_frozen BK203.out 7
      have hfz22_8 := blk_frozen BK203.out 8
      have hfz22_9 := blk_frozen BK203.out 9
      have hfz22_10 := blk_frozen BK203.out 10
      go_wp2
      go_ret
      exact ⟨by first | rfl | (simp [errW_none, errW_some] <;> rfl) | (simp [*, errW_none, errW_some] <;> rfl), by repeat (first | (with_reducible first | exact HB.out | apply below_alloc | apply pw_below_drewN | apply below_drew1 | refine below_set ?_ GE203.out) | exact HB.out)⟩
    ·rw [if_neg c17] at H
     have c17b0 : decide (0 < a0_0) = false := decide_eq_false c17
     clear c17
     obtain rfl := Option.some.inj H
     obtain ⟨Ao23, co23, eo23⟩ := Kd.R_slice HO_3.out
     subst eo23
     have hcz24_0 : wr.cell? ⟨gb203, 0, none⟩ = some (.int .i64 a0_0) := (blk_cell BK203.out 0).trans rfl
     have hcz24_1 : wr.cell? ⟨gb203, 1, none⟩ = some (.int .i64 a0_1) := (blk_cell BK203.out 1).trans rfl
     have hcz24_2 : wr.cell? ⟨gb203, 2, none⟩ = some (.int .i64 a0_2) := (blk_cell BK203.out 2).trans rfl
     have hcz24_3 : wr.cell? ⟨gb203, 3, none⟩ = some (.int .i64 a0_3) := (blk_cell BK203.out 3).trans rfl
     have hcz24_4 : wr.cell? ⟨gb203, 4, none⟩ = some (.int .i64 a0_4) := (blk_cell BK203.out 4).trans rfl
     have hcz24_5 : wr.cell? ⟨gb203, 5, none⟩ = some (.int .i64 a0_5) := (blk_cell BK203.out 5).trans rfl
     have hcz24_6 : wr.cell? ⟨gb203, 6, none⟩ = some (.int .i64 a0_6) := (blk_cell BK203.out 6).trans rfl
     have hcz24_7 : wr.cell? ⟨gb203, 7, none⟩ = some (.int .i64 a0_7) := (blk_cell BK203.out 7).trans rfl
     have hcz24_8 : wr.cell? ⟨gb203, 8, none⟩ = some (.int .i64 a0_8) := (blk_cell BK203.out 8).trans rfl
     have hcz24_9 : wr.cell? ⟨gb203, 9, none⟩ = some (.int .i64 a0_9) := (blk_cell BK203.out 9).trans rfl
     have hcz24_10 : wr.cell? ⟨gb203, 10, none⟩ = some (.slice A0_10 l0_10.length c0_10) := (blk_cell BK203.out 10).trans rfl
     have hfz24_0 := blk_frozen BK203.out 0
     have hfz24_1 := blk_frozen BK203.out 1
     have hfz24_2 := blk_frozen BK203.out 2
     have hfz24_3 := blk_frozen BK203.out 3
     have hfz24_4 := blk_frozen BK203.out 4
     have hfz24_5 := blk_frozen BK203.out 5
     have hfz24_6 := blk_frozen BK203.out 6
     have hfz24_7 := blk_frozen BK203.out 7
     have hfz24_8 := blk_frozen BK203.out 8
     have hfz24_9 := blk_frozen BK203.out 9
     have hfz24_10 := blk_frozen BK203.out 10
     go_wp2
     go_ret
     exact ⟨by first | rfl | (simp [errW_none, errW_some] <;> rfl) | (simp [*, errW_none, errW_some] <;> rfl), by repeat (first | (with_reducible first | exact HB.out | apply below_alloc | apply pw_below_drewN | apply below_drew1 | refine below_set ?_ GE203.out) | exact HB.out)⟩

end
end Go.Proofs.Ytgfpkhihdahjlab.QWire
