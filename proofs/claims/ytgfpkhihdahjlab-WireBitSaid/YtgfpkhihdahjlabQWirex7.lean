-- Printed by a program of this session's own (wip/gen), which turns the kit's printer; not one of the kit's printed texts.
import Derived.Test.YtgfpkhihdahjlabQWirex0
import Derived.Test.YtgfpkhihdahjlabQWirex2
import Derived.Test.YtgfpkhihdahjlabQWirex5
import Derived.Test.YtgfpkhihdahjlabQWirex6
namespace Go.Proofs.Ytgfpkhihdahjlab.QWire
open Go.RowKit Go.Proofs.Ytgfpkhihdahjlab.Given Go.Proofs.YtgfpkhihdahjlabW.PrintWords Go.Proofs.YtgfpkhihdahjlabW.PrintLast Go.Proofs.YtgfpkhihdahjlabW.PrintMore
attribute [local go_sem] max2_int min2_int max_two min_two max_three min_three max_four min_four   -- for this text's walks alone
set_option linter.unusedVariables false
set_option linter.unusedSimpArgs false
noncomputable section

/-! ### wire_Take: function 22 -/
theorem far11 {w : World} {g b o : Nat} (h : b ≠ g) {v0 v1 v2 v3 v4 v5 v6 v7 v8 v9 v10 x : Value} (hx : w.cell? ⟨b, o, none⟩ = some x) :
  (((((((((((w.setCell ⟨g, 0, none⟩ v0).setCell ⟨g, 1, none⟩ v1).setCell ⟨g, 2, none⟩ v2).setCell ⟨g, 3, none⟩ v3).setCell ⟨g, 4, none⟩ v4).setCell ⟨g, 5, none⟩ v5).setCell ⟨g, 6, none⟩ v6).setCell ⟨g, 7, none⟩ v7).setCell ⟨g, 8, none⟩ v8).setCell ⟨g, 9, none⟩ v9).setCell ⟨g, 10, none⟩ v10).cell? ⟨b, o, none⟩ = some x := by
 have k : (⟨b, o, none⟩ : Addr).block ≠ g := h
 rw [cell_far k, cell_far k, cell_far k, cell_far k, cell_far k, cell_far k, cell_far k, cell_far k, cell_far k, cell_far k, cell_far k]; exact hx
mutual
def wire_Take.j0 : Nat → ByteArray → Bool → Option (Int × Int × Int × Int × Int × Int × Int × Int × Int × Int × List Int × Int)
 | 0, _, _ => none
 | k + 1, x0, x26 => if x26 = true then (some (0, 0, 0, 0, 0, 0, 0, 0, 0, 0, ([] : List Int), 2)) else ((wire_number.f k x0 (wrap64 ((wrap64 ((x0.size : Int) / 4)) - 1))).bind fun t135 => (if 4 ≤ (wrap64 (4 * (wrap64 ((wrap64 ((x0.size : Int) / 4)) - 1)))) then (if (wrap64 (4 * (wrap64 ((wrap64 ((x0.size : Int) / 4)) - 1)))) ≤ (x0.size : Int) then ((crc_Sum.f (x0.extract 4 ((wrap64 (4 * (wrap64 ((wrap64 ((x0.size : Int) / 4)) - 1)))) : Int).toNat)).bind fun t136 => (if t135 = t136 then (if 0 ≤ (wrap64 ((wrap64 ((x0.size : Int) / 4)) - 1)) then (if (wrap64 ((wrap64 ((x0.size : Int) / 4)) - 1) : Int).toNat ≤ 35184372088832 then ((some (List.replicate (wrap64 ((wrap64 ((x0.size : Int) / 4)) - 1) : Int).toNat 0 : List Int)).bind fun y137 => (wire_Take.l0 k x0 y137 (y137.length : Int) 0)) else (none)) else (none)) else (some (0, 0, 0, 0, 0, 0, 0, 0, 0, 0, ([] : List Int), 9)))) else (none)) else (none)))
def wire_Take.l0 : Nat → ByteArray → List Int → Int → Int → Option (Int × Int × Int × Int × Int × Int × Int × Int × Int × Int × List Int × Int)
 | 0, _, _, _, _ => none
 | k + 1, x0, x5, x45, x46 => if x46 < x45 then ((wire_number.f k x0 x46).bind fun t140 => (if 0 ≤ x46 then (if x46 < (x5.length : Int) then (wire_Take.l0 k x0 (x5.set (x46 : Int).toNat t140) x45 (wrap64 (x46 + 1))) else (none)) else (none))) else (if 1 < (x5.length : Int) then (if 2 < (x5.length : Int) then (if 3 < (x5.length : Int) then (if 4 < (x5.length : Int) then (if 5 < (x5.length : Int) then (if 6 < (x5.length : Int) then (if 7 < (x5.length : Int) then (if 8 < (x5.length : Int) then (if 9 < (x5.length : Int) then (if 10 < (x5.length : Int) then (if 12 ≤ (x5.length : Int) then ((some (x5.drop 12 : List Int)).bind fun y153 => (wire_Take.l1 k x5 y153 (y153.length : Int) 0 (rd x5 1) (rd x5 2) (rd x5 3) (rd x5 4) (rd x5 5) (rd x5 6) (rd x5 7) (rd x5 8) (rd x5 9) (rd x5 10) ([] : List Int))) else (none)) else (none)) else (none)) else (none)) else (none)) else (none)) else (none)) else (none)) else (none)) else (none)) else (none))
def wire_Take.l1 : Nat → List Int → List Int → Int → Int → Int → Int → Int → Int → Int → Int → Int → Int → Int → Int → List Int → Option (Int × Int × Int × Int × Int × Int × Int × Int × Int × Int × List Int × Int)
 | 0, _, _, _, _, _, _, _, _, _, _, _, _, _, _, _ => none
 | k + 1, x5, x88, x89, x90, x153000, x153001, x153002, x153003, x153004, x153005, x153006, x153007, x153008, x153009, x153010 => if x90 < x89 then (if 0 ≤ x90 then (if x90 < (x88.length : Int) then ((wire_signed.f (rd x88 x90)).bind fun t158 => (if x153010.length < 17592186044416 then (wire_Take.l1 k x5 x88 x89 (wrap64 (x90 + 1)) x153000 x153001 x153002 x153003 x153004 x153005 x153006 x153007 x153008 x153009 (x153010 ++ [t158])) else (none))) else (none)) else (none)) else (if 11 < (x5.length : Int) then (if (rd x5 11) = (x153010.length : Int) then ((wire_Right.f k x153000 x153001 x153002 x153003 x153004 x153005 x153006 x153007 x153008 x153009 x153010).bind fun t163 => (if t163 = true then (some (x153000, x153001, x153002, x153003, x153004, x153005, x153006, x153007, x153008, x153009, x153010, 0)) else (some (0, 0, 0, 0, 0, 0, 0, 0, 0, 0, ([] : List Int), 2)))) else (some (0, 0, 0, 0, 0, 0, 0, 0, 0, 0, ([] : List Int), 2))) else (none))
end
def wire_Take.f (k : Nat) (a0 : ByteArray) : Option (Int × Int × Int × Int × Int × Int × Int × Int × Int × Int × List Int × Int) := if (a0.size : Int) < 52 then (wire_Take.j0 k a0 true) else ((wire_number.f k a0 0).bind fun t134 => (if t134 = (wrap64 ((a0.size : Int) - 4)) then (wire_Take.j0 k a0 (((a0.size : Int) % 4) != 0)) else (wire_Take.j0 k a0 true)))
theorem wire_Take.mono_l : ∀ k, (∀ y0 y1, LeO (wire_Take.j0 k y0 y1) (wire_Take.j0 (k + 1) y0 y1)) ∧ (∀ y0 y1 y2 y3, LeO (wire_Take.l0 k y0 y1 y2 y3) (wire_Take.l0 (k + 1) y0 y1 y2 y3)) ∧ (∀ y0 y1 y2 y3 y4 y5 y6 y7 y8 y9 y10 y11 y12 y13 y14, LeO (wire_Take.l1 k y0 y1 y2 y3 y4 y5 y6 y7 y8 y9 y10 y11 y12 y13 y14) (wire_Take.l1 (k + 1) y0 y1 y2 y3 y4 y5 y6 y7 y8 y9 y10 y11 y12 y13 y14))
 | 0 => ⟨fun _ _ r h => by simp [wire_Take.j0] at h, fun _ _ _ _ r h => by simp [wire_Take.l0] at h, fun _ _ _ _ _ _ _ _ _ _ _ _ _ _ _ r h => by simp [wire_Take.l1] at h⟩
 | k + 1 => by
  obtain ⟨ih0, ih1, ih2⟩ := wire_Take.mono_l k
  refine ⟨?_, ?_, ?_⟩
  ·intro y0 y1
   unfold wire_Take.j0
   repeat' first
   | (with_reducible exact ih0 _ _)
   | (with_reducible exact ih1 _ _ _ _)
   | (with_reducible exact ih2 _ _ _ _ _ _ _ _ _ _ _ _ _ _ _)
   | (with_reducible exact wire_Right.mono _ _ _ _ _ _ _ _ _ _ _ _)
   | (with_reducible exact wire_number.mono _ _ _)
   | (with_reducible exact LeO.refl _)
   | (with_reducible exact LeO.none _)
   | (with_reducible refine LeO.ite ?_ ?_)
   | (with_reducible refine LeO.bind ?_ (fun _ => ?_))
   | exact ih0 _ _
   | exact ih1 _ _ _ _
   | exact ih2 _ _ _ _ _ _ _ _ _ _ _ _ _ _ _
   | exact wire_Right.mono _ _ _ _ _ _ _ _ _ _ _ _
   | exact wire_number.mono _ _ _
   | exact LeO.none _
   | refine LeO.ite ?_ ?_
   | refine LeO.bind ?_ (fun _ => ?_)
  ·intro y0 y1 y2 y3
   unfold wire_Take.l0
   repeat' first
   | (with_reducible exact ih0 _ _)
   | (with_reducible exact ih1 _ _ _ _)
   | (with_reducible exact ih2 _ _ _ _ _ _ _ _ _ _ _ _ _ _ _)
   | (with_reducible exact wire_Right.mono _ _ _ _ _ _ _ _ _ _ _ _)
   | (with_reducible exact wire_number.mono _ _ _)
   | (with_reducible exact LeO.refl _)
   | (with_reducible exact LeO.none _)
   | (with_reducible refine LeO.ite ?_ ?_)
   | (with_reducible refine LeO.bind ?_ (fun _ => ?_))
   | exact ih0 _ _
   | exact ih1 _ _ _ _
   | exact ih2 _ _ _ _ _ _ _ _ _ _ _ _ _ _ _
   | exact wire_Right.mono _ _ _ _ _ _ _ _ _ _ _ _
   | exact wire_number.mono _ _ _
   | exact LeO.none _
   | refine LeO.ite ?_ ?_
   | refine LeO.bind ?_ (fun _ => ?_)
  ·intro y0 y1 y2 y3 y4 y5 y6 y7 y8 y9 y10 y11 y12 y13 y14
   unfold wire_Take.l1
   repeat' first
   | (with_reducible exact ih0 _ _)
   | (with_reducible exact ih1 _ _ _ _)
   | (with_reducible exact ih2 _ _ _ _ _ _ _ _ _ _ _ _ _ _ _)
   | (with_reducible exact wire_Right.mono _ _ _ _ _ _ _ _ _ _ _ _)
   | (with_reducible exact wire_number.mono _ _ _)
   | (with_reducible exact LeO.refl _)
   | (with_reducible exact LeO.none _)
   | (with_reducible refine LeO.ite ?_ ?_)
   | (with_reducible refine LeO.bind ?_ (fun _ => ?_))
   | exact ih0 _ _
   | exact ih1 _ _ _ _
   | exact ih2 _ _ _ _ _ _ _ _ _ _ _ _ _ _ _
   | exact wire_Right.mono _ _ _ _ _ _ _ _ _ _ _ _
   | exact wire_number.mono _ _ _
   | exact LeO.none _
   | refine LeO.ite ?_ ?_
   | refine LeO.bind ?_ (fun _ => ?_)
theorem wire_Take.mono : ∀ a0 k, LeO (wire_Take.f k a0) (wire_Take.f (k + 1) a0) := by
 intro a0 k
 obtain ⟨ih0, ih1, ih2⟩ := wire_Take.mono_l k
 unfold wire_Take.f
 repeat' first
   | (with_reducible exact ih0 _ _)
   | (with_reducible exact ih1 _ _ _ _)
   | (with_reducible exact ih2 _ _ _ _ _ _ _ _ _ _ _ _ _ _ _)
   | (with_reducible exact wire_Right.mono _ _ _ _ _ _ _ _ _ _ _ _)
   | (with_reducible exact wire_number.mono _ _ _)
   | (with_reducible exact LeO.refl _)
   | (with_reducible exact LeO.none _)
   | (with_reducible refine LeO.ite ?_ ?_)
   | (with_reducible refine LeO.bind ?_ (fun _ => ?_))
   | exact ih0 _ _
   | exact ih1 _ _ _ _
   | exact ih2 _ _ _ _ _ _ _ _ _ _ _ _ _ _ _
   | exact wire_Right.mono _ _ _ _ _ _ _ _ _ _ _ _
   | exact wire_number.mono _ _ _
   | exact LeO.none _
   | refine LeO.ite ?_ ?_
   | refine LeO.bind ?_ (fun _ => ?_)
def wire_Take.T4 : Bool × List (List Nat × List Nat) := (true, [([], []), ([], []), ([0, 1], [0, 1]), ([], []), ([], []), ([4], [4]), ([3, 5], [3, 5]), ([6, 2], [6]), ([2, 7], [2, 7])])
def wire_Take.B4 : List Nat := [0, 0, 3, 0, 0, 16, 56, 127, 255]
theorem wire_Take.tab4 : rtab .any (opsOf Try.f22 4) = wire_Take.T4 := by kernel_rfl
theorem wire_Take.bits4 : waitsOk wire_Take.T4.2 wire_Take.B4 = true := by kernel_rfl
def wire_Take.T12 : Bool × List (List Nat × List Nat) := (true, [([], []), ([0], [0]), ([1], [1]), ([], []), ([3], [3]), ([4], [4]), ([], []), ([6], [6]), ([7], [7]), ([], []), ([9], [9]), ([10], [10]), ([], []), ([12], [12]), ([13], [13]), ([], []), ([15], [15]), ([16], [16]), ([], []), ([18], [18]), ([19], [19]), ([], []), ([21], [21]), ([22], [22]), ([], []), ([24], [24]), ([25], [25]), ([], []), ([27], [27]), ([28], [28]), ([2, 5, 8, 11, 14, 17, 20, 23, 26, 29], [2, 5, 8, 11, 14, 17, 20, 23, 26, 29]), ([], []), ([31, 30, 0, 1, 2, 3, 4, 5, 6, 7, 8, 9, 10, 11, 12, 13, 14, 15, 16, 17, 18, 19, 20, 21, 22, 23, 24, 25, 26, 27, 28, 29, 30, 31], [30, 31])])
def wire_Take.B12 : List Nat := [0, 1, 3, 0, 8, 24, 0, 64, 192, 0, 512, 1536, 0, 4096, 12288, 0, 32768, 98304, 0, 262144, 786432, 0, 2097152, 6291456, 0, 16777216, 50331648, 0, 134217728, 402653184, 1073741823, 0, 4294967295]
theorem wire_Take.tab12 : rtab .any (opsOf Try.f22 12) = wire_Take.T12 := by kernel_rfl
theorem wire_Take.bits12 : waitsOk wire_Take.T12.2 wire_Take.B12 = true := by kernel_rfl
def wire_Take.T16 : Bool × List (List Nat × List Nat) := (true, [([], []), ([0], [0]), ([], []), ([2], [2]), ([3], [3]), ([1, 4, 3], [1, 4]), ([0, 1, 2, 3, 4, 5], []), ([6, 5, 5, 0, 1, 2, 3, 4, 5], [5, 6])])
def wire_Take.B16 : List Nat := [0, 1, 0, 4, 12, 31, 63, 127]
theorem wire_Take.tab16 : rtab .any (opsOf Try.f22 16) = wire_Take.T16 := by kernel_rfl
theorem wire_Take.bits16 : waitsOk wire_Take.T16.2 wire_Take.B16 = true := by kernel_rfl
def wire_Take.T18 : Bool × List (List Nat × List Nat) := (true, [([], []), ([0], [0]), ([1], [1]), ([], []), ([3], [3]), ([4], [4]), ([2, 5], [2, 5]), ([6], [6]), ([7], [7]), ([8, 7, 7], [7, 8]), ([9, 7], [7, 9]), ([7, 10], [7, 10])])
def wire_Take.B18 : List Nat := [0, 1, 3, 0, 8, 24, 63, 127, 255, 511, 1023, 2047]
theorem wire_Take.tab18 : rtab .any (opsOf Try.f22 18) = wire_Take.T18 := by kernel_rfl
theorem wire_Take.bits18 : waitsOk wire_Take.T18.2 wire_Take.B18 = true := by kernel_rfl
set_option maxHeartbeats 8000000 in
set_option maxRecDepth 100000 in
theorem wire_Take.calls (k : Nat) (a0 : ByteArray) (r1 : Int) (r2 : Int) (r3 : Int) (r4 : Int) (r5 : Int) (r6 : Int) (r7 : Int) (r8 : Int) (r9 : Int) (r10 : Int) (r11 : List Int) (r12 : Int) (w : World) (h : wire_Take.f k a0 = some (r1, r2, r3, r4, r5, r6, r7, r8, r9, r10, r11, r12)) :
  Calls Try.prog 22 #[.string a0] w fun e w' => ∃ v10_ : Value, e = .returned (.tuple #[.agg #[.int .i64 r1, .int .i64 r2, .int .i64 r3, .int .i64 r4, .int .i64 r5, .int .i64 r6, .int .i64 r7, .int .i64 r8, .int .i64 r9, .int .i64 r10, v10_], .int .i64 r12]) ∧ Kd.R (Kd.int .i64) 3 w' w.heap.size (fun _ => True) v10_ r11 ∧ Below w.heap.size w w' := by
 have hu32 := Try.underlying32
 have HB := Aside0.mk (Below.refl w.heap.size w)
 have H : (if (a0.size : Int) < 52 then (wire_Take.j0 k a0 true) else ((wire_number.f k a0 0).bind fun t134 => (if t134 = (wrap64 ((a0.size : Int) - 4)) then (wire_Take.j0 k a0 (((a0.size : Int) % 4) != 0)) else (wire_Take.j0 k a0 true)))) = some (r1, r2, r3, r4, r5, r6, r7, r8, r9, r10, r11, r12) := h
 clear h
 have HC2 := Aside0.mk H
 clear H
 go_enter Try.func22, Try.ntmps22
 go_upto_region 1 with (first | ((with_reducible refine gate_dst (N := 2) rfl ?_); (try (refine gate_guard (by rfl) ?_; dsimp only)); refine box_event ?hg (N := 2) ?hd (cs := #[.int .i64 0, .int .i64 0, .int .i64 0, .int .i64 0, .int .i64 0, .int .i64 0, .int .i64 0, .int .i64 0, .int .i64 0, .int .i64 0, .slice none 0 0]) (t := 32) ?hr ?_; (case hd => rfl); (case hg => rfl); (case hr => first | (go_simp; done) | (go_simp; rfl)); intro gb133 hg w3 hbox hb; have n0_ := Aside0.mk (below_step (by repeat (first | (with_reducible first | exact HB.out | apply below_alloc | apply pw_below_drewN | apply below_drew1) | exact HB.out)) hb); have n1_ := Aside0.mk (hbox); have n2_ := Aside0.mk ((by rw [hg]; exact (below_size (by repeat (first | (with_reducible first | exact HB.out | apply below_alloc | apply pw_below_drewN | apply below_drew1) | exact HB.out))) : w.heap.size ≤ gb133)); have n3_ := Aside0.mk ((by rw [hg]; exact (below_size (by repeat (first | (with_reducible first | exact HB.out | apply below_alloc | apply pw_below_drewN | apply below_drew1) | exact HB.out))) : w.heap.size ≤ gb133)); clear HB; have HB := n0_; have BK133 := n1_; have GW133 := n2_; have GE133 := n3_; clear n0_ n1_ n2_ n3_; clear hb hbox hg))
 (try simp only [Act.put, List.setIfInBounds_toArray, List.set_cons_zero, List.set_cons_succ])
 go_cut [26] (fun v26 wc => ∃ (kq : Nat) (x26_1 : Bool), v26 = .bool x26_1 ∧ Aside0 (wire_Take.j0 kq a0 x26_1 = some (r1, r2, r3, r4, r5, r6, r7, r8, r9, r10, r11, r12)) ∧ Aside0 (kq ≤ k) ∧ Aside0 (wc.heap[gb133]? = some (.cells #[.int .i64 0, .int .i64 0, .int .i64 0, .int .i64 0, .int .i64 0, .int .i64 0, .int .i64 0, .int .i64 0, .int .i64 0, .int .i64 0, (.slice none 0 0)] 32 (0, 0))) ∧ Aside0 (Below w.heap.size w wc))
 case first =>
  have H := HC2.out
  clear HC2
  by_cases c4 : (a0.size : Int) < 52
  ·rw [if_pos c4] at H
   have c4b0 : decide ((a0.size : Int) < 52) = true := decide_eq_true c4
   have c4b1 : decide (a0.size < 52) = true := decide_eq_true (by omega)
   clear c4
   (first | rw [c4b0] | (simp only [i64_w, i32_w]; rw [c4b0]) | skip)
   have H' := Aside0.mk H
   clear H
   go_wp2
   go_meet
   case rel => exact ⟨_, (true), (by first | rfl | (simp; done) | (simp [*]; done)), H', ⟨by first | omega | exact Nat.le_refl _⟩, ⟨by (with_reducible repeat (first | refine blk_drewN ?_ _ | refine blk_drew ?_ | refine blk_alloc ?_ _)); exact BK133.out⟩, ⟨by repeat (first | (with_reducible first | exact HB.out | apply below_alloc | apply pw_below_drewN | apply below_drew1 | refine below_set ?_ GE133.out) | exact HB.out)⟩⟩
  ·rw [if_neg c4] at H
   have c4b0 : decide ((a0.size : Int) < 52) = false := decide_eq_false c4
   have c4b1 : decide (a0.size < 52) = false := decide_eq_false (by omega)
   clear c4
   (first | rw [c4b0] | (simp only [i64_w, i32_w]; rw [c4b0]) | skip)
   replace H := Option.bind_eq_some_iff.mp H
   obtain ⟨t134, A50, H⟩ := H
   replace H : (if t134 = (wrap64 ((a0.size : Int) - 4)) then (wire_Take.j0 k a0 (((a0.size : Int) % 4) != 0)) else (wire_Take.j0 k a0 true)) = some (r1, r2, r3, r4, r5, r6, r7, r8, r9, r10, r11, r12) := H
   have A5 := Aside0.mk A50
   clear A50
   by_cases c6 : t134 = (wrap64 ((a0.size : Int) - 4))
   ·rw [if_pos c6] at H
    have c6b0 : (t134 == (wrap64 ((a0.size : Int) - 4))) = true := beq_iff_eq.mpr c6
    have c6b1 : (t134 != (wrap64 ((a0.size : Int) - 4))) = false := bne_eq_false_iff_eq.mpr c6
    clear c6
    have H' := Aside0.mk H
    clear H
    go_wp2_with (first | (go_at_call 40; (with_reducible refine (wire_number.calls k a0 0 t134 _ A5.out).mono ?_); rintro e w' ⟨rfl, ⟨nd, rfl⟩⟩))
    go_meet
    case rel => exact ⟨_, ((((a0.size : Int) % 4) != 0)), (by first | rfl | (simp; done) | (simp [*]; done)), H', ⟨by first | omega | exact Nat.le_refl _⟩, ⟨by (with_reducible repeat (first | refine blk_drewN ?_ _ | refine blk_drew ?_ | refine blk_alloc ?_ _)); exact BK133.out⟩, ⟨by repeat (first | (with_reducible first | exact HB.out | apply below_alloc | apply pw_below_drewN | apply below_drew1 | refine below_set ?_ GE133.out) | exact HB.out)⟩⟩
   ·rw [if_neg c6] at H
    have c6b0 : (t134 == (wrap64 ((a0.size : Int) - 4))) = false := beq_eq_false_iff_ne.mpr c6
    have c6b1 : (t134 != (wrap64 ((a0.size : Int) - 4))) = true := bne_iff_ne.mpr c6
    have H' := Aside0.mk H
    clear H
    go_wp2_with (first | (go_at_call 40; (with_reducible refine (wire_number.calls k a0 0 t134 _ A5.out).mono ?_); rintro e w' ⟨rfl, ⟨nd, rfl⟩⟩))
    go_meet
    case rel => exact ⟨_, (true), (by first | rfl | (simp; done) | (simp [*]; done)), H', ⟨by first | omega | exact Nat.le_refl _⟩, ⟨by (with_reducible repeat (first | refine blk_drewN ?_ _ | refine blk_drew ?_ | refine blk_alloc ?_ _)); exact BK133.out⟩, ⟨by repeat (first | (with_reducible first | exact HB.out | apply below_alloc | apply pw_below_drewN | apply below_drew1 | refine below_set ?_ GE133.out) | exact HB.out)⟩⟩
 case rest =>
  clear HC2
  try clear c2
  try clear p2
  try clear c4
  try clear c4b0
  try clear c4b1
  try clear c6
  try clear c6b0
  try clear c6b1
  try clear p6
  obtain ⟨kq, x26_1, rfl, HA, HJ1, BK133, HB⟩ := hcut
  cases kq with
  | zero => exact absurd HA.out (by simp [wire_Take.j0])
  | succ kj1 =>
   have H := HA.out
   clear HA
   simp only [wire_Take.j0] at H
   by_cases c7 : x26_1 = true
   ·subst c7
    have H1 : (some (0, 0, 0, 0, 0, 0, 0, 0, 0, 0, ([] : List Int), 2)) = some (r1, r2, r3, r4, r5, r6, r7, r8, r9, r10, r11, r12) := by rw [if_pos rfl] at H; exact H
    clear H
    have H := H1
    clear H1
    simp only [Option.some.injEq, Prod.mk.injEq] at H
    obtain ⟨rfl, rfl, rfl, rfl, rfl, rfl, rfl, rfl, rfl, rfl, rfl, rfl⟩ := H
    have hcz8_0 : wc.cell? ⟨gb133, 0, none⟩ = some (.int .i64 0) := (blk_cell BK133.out 0).trans rfl
    have hcz8_1 : wc.cell? ⟨gb133, 1, none⟩ = some (.int .i64 0) := (blk_cell BK133.out 1).trans rfl
    have hcz8_2 : wc.cell? ⟨gb133, 2, none⟩ = some (.int .i64 0) := (blk_cell BK133.out 2).trans rfl
    have hcz8_3 : wc.cell? ⟨gb133, 3, none⟩ = some (.int .i64 0) := (blk_cell BK133.out 3).trans rfl
    have hcz8_4 : wc.cell? ⟨gb133, 4, none⟩ = some (.int .i64 0) := (blk_cell BK133.out 4).trans rfl
    have hcz8_5 : wc.cell? ⟨gb133, 5, none⟩ = some (.int .i64 0) := (blk_cell BK133.out 5).trans rfl
    have hcz8_6 : wc.cell? ⟨gb133, 6, none⟩ = some (.int .i64 0) := (blk_cell BK133.out 6).trans rfl
    have hcz8_7 : wc.cell? ⟨gb133, 7, none⟩ = some (.int .i64 0) := (blk_cell BK133.out 7).trans rfl
    have hcz8_8 : wc.cell? ⟨gb133, 8, none⟩ = some (.int .i64 0) := (blk_cell BK133.out 8).trans rfl
    have hcz8_9 : wc.cell? ⟨gb133, 9, none⟩ = some (.int .i64 0) := (blk_cell BK133.out 9).trans rfl
    have hcz8_10 : wc.cell? ⟨gb133, 10, none⟩ = some (.slice none 0 0) := (blk_cell BK133.out 10).trans rfl
    have hfz8_0 := blk_frozen BK133.out 0
    have hfz8_1 := blk_frozen BK133.out 1
    have hfz8_2 := blk_frozen BK133.out 2
    have hfz8_3 := blk_frozen BK133.out 3
    have hfz8_4 := blk_frozen BK133.out 4
    have hfz8_5 := blk_frozen BK133.out 5
    have hfz8_6 := blk_frozen BK133.out 6
    have hfz8_7 := blk_frozen BK133.out 7
    have hfz8_8 := blk_frozen BK133.out 8
    have hfz8_9 := blk_frozen BK133.out 9
    have hfz8_10 := blk_frozen BK133.out 10
    go_wp2
    refine bodyPost_ret (results_ct rfl _ _ gb133 32 #[.int .i64 0, .int .i64 0, .int .i64 0, .int .i64 0, .int .i64 0, .int .i64 0, .int .i64 0, .int .i64 0, .int .i64 0, .int .i64 0, .slice none 0 0] (0, 0) _ rfl (by (with_reducible repeat (first | refine blk_drewN ?_ _ | refine blk_drew ?_ | refine blk_alloc ?_ _)); refine blk_put (cs := #[.int .i64 0, .int .i64 0, .int .i64 0, .int .i64 0, .int .i64 0, .int .i64 0, .int .i64 0, .int .i64 0, .int .i64 0, .int .i64 0, .slice none 0 0]) ?_ 10 _ rfl; (with_reducible repeat (first | refine blk_drewN ?_ _ | refine blk_drew ?_ | refine blk_alloc ?_ _)); refine blk_put (cs := #[.int .i64 0, .int .i64 0, .int .i64 0, .int .i64 0, .int .i64 0, .int .i64 0, .int .i64 0, .int .i64 0, .int .i64 0, .int .i64 0, .slice none 0 0]) ?_ 9 _ rfl; (with_reducible repeat (first | refine blk_drewN ?_ _ | refine blk_drew ?_ | refine blk_alloc ?_ _)); refine blk_put (cs := #[.int .i64 0, .int .i64 0, .int .i64 0, .int .i64 0, .int .i64 0, .int .i64 0, .int .i64 0, .int .i64 0, .int .i64 0, .int .i64 0, .slice none 0 0]) ?_ 8 _ rfl; (with_reducible repeat (first | refine blk_drewN ?_ _ | refine blk_drew ?_ | refine blk_alloc ?_ _)); refine blk_put (cs := #[.int .i64 0, .int .i64 0, .int .i64 0, .int .i64 0, .int .i64 0, .int .i64 0, .int .i64 0, .int .i64 0, .int .i64 0, .int .i64 0, .slice none 0 0]) ?_ 7 _ rfl; (with_reducible repeat (first | refine blk_drewN ?_ _ | refine blk_drew ?_ | refine blk_alloc ?_ _)); refine blk_put (cs := #[.int .i64 0, .int .i64 0, .int .i64 0, .int .i64 0, .int .i64 0, .int .i64 0, .int .i64 0, .int .i64 0, .int .i64 0, .int .i64 0, .slice none 0 0]) ?_ 6 _ rfl; (with_reducible repeat (first | refine blk_drewN ?_ _ | refine blk_drew ?_ | refine blk_alloc ?_ _)); refine blk_put (cs := #[.int .i64 0, .int .i64 0, .int .i64 0, .int .i64 0, .int .i64 0, .int .i64 0, .int .i64 0, .int .i64 0, .int .i64 0, .int .i64 0, .slice none 0 0]) ?_ 5 _ rfl; (with_reducible repeat (first | refine blk_drewN ?_ _ | refine blk_drew ?_ | refine blk_alloc ?_ _)); refine blk_put (cs := #[.int .i64 0, .int .i64 0, .int .i64 0, .int .i64 0, .int .i64 0, .int .i64 0, .int .i64 0, .int .i64 0, .int .i64 0, .int .i64 0, .slice none 0 0]) ?_ 4 _ rfl; (with_reducible repeat (first | refine blk_drewN ?_ _ | refine blk_drew ?_ | refine blk_alloc ?_ _)); refine blk_put (cs := #[.int .i64 0, .int .i64 0, .int .i64 0, .int .i64 0, .int .i64 0, .int .i64 0, .int .i64 0, .int .i64 0, .int .i64 0, .int .i64 0, .slice none 0 0]) ?_ 3 _ rfl; (with_reducible repeat (first | refine blk_drewN ?_ _ | refine blk_drew ?_ | refine blk_alloc ?_ _)); refine blk_put (cs := #[.int .i64 0, .int .i64 0, .int .i64 0, .int .i64 0, .int .i64 0, .int .i64 0, .int .i64 0, .int .i64 0, .int .i64 0, .int .i64 0, .slice none 0 0]) ?_ 2 _ rfl; (with_reducible repeat (first | refine blk_drewN ?_ _ | refine blk_drew ?_ | refine blk_alloc ?_ _)); refine blk_put (cs := #[.int .i64 0, .int .i64 0, .int .i64 0, .int .i64 0, .int .i64 0, .int .i64 0, .int .i64 0, .int .i64 0, .int .i64 0, .int .i64 0, .slice none 0 0]) ?_ 1 _ rfl; (with_reducible repeat (first | refine blk_drewN ?_ _ | refine blk_drew ?_ | refine blk_alloc ?_ _)); refine blk_put (cs := #[.int .i64 0, .int .i64 0, .int .i64 0, .int .i64 0, .int .i64 0, .int .i64 0, .int .i64 0, .int .i64 0, .int .i64 0, .int .i64 0, .slice none 0 0]) ?_ 0 _ rfl; (with_reducible repeat (first | refine blk_drewN ?_ _ | refine blk_drew ?_ | refine blk_alloc ?_ _)); exact BK133.out) Try.underlying32 rfl (by kernel_rfl)) rfl ?_
    exact ⟨_, by first | rfl | (simp [errW_none, errW_some] <;> rfl) | (simp [*, errW_none, errW_some] <;> rfl), by first | exact Kd.R_nil _ _ _ _ _ | exact Kd.N_nil _ _ _ _ _ | exact Kd.V_nil _ _ _ _ _ | exact Kd.Q_nil _ _ _ _ _ | exact Kd.S_nil _ _ _ _ _, by repeat (first | (with_reducible first | exact HB.out | apply below_alloc | apply pw_below_drewN | apply below_drew1 | refine below_set ?_ GE133.out) | exact HB.out)⟩
   ·replace c7 := Bool.eq_false_iff.mpr c7
    subst c7
    have H1 : ((wire_number.f kj1 a0 (wrap64 ((wrap64 ((a0.size : Int) / 4)) - 1))).bind fun t135 => (if 4 ≤ (wrap64 (4 * (wrap64 ((wrap64 ((a0.size : Int) / 4)) - 1)))) then (if (wrap64 (4 * (wrap64 ((wrap64 ((a0.size : Int) / 4)) - 1)))) ≤ (a0.size : Int) then ((crc_Sum.f (a0.extract 4 ((wrap64 (4 * (wrap64 ((wrap64 ((a0.size : Int) / 4)) - 1)))) : Int).toNat)).bind fun t136 => (if t135 = t136 then (if 0 ≤ (wrap64 ((wrap64 ((a0.size : Int) / 4)) - 1)) then (if (wrap64 ((wrap64 ((a0.size : Int) / 4)) - 1) : Int).toNat ≤ 35184372088832 then ((some (List.replicate (wrap64 ((wrap64 ((a0.size : Int) / 4)) - 1) : Int).toNat 0 : List Int)).bind fun y137 => (wire_Take.l0 kj1 a0 y137 (y137.length : Int) 0)) else (none)) else (none)) else (some (0, 0, 0, 0, 0, 0, 0, 0, 0, 0, ([] : List Int), 9)))) else (none)) else (none))) = some (r1, r2, r3, r4, r5, r6, r7, r8, r9, r10, r11, r12) := by rw [if_neg (show ¬ (false = true) by decide)] at H; exact H
    clear H
    have H := H1
    clear H1
    replace H := Option.bind_eq_some_iff.mp H
    obtain ⟨t135, A90, H⟩ := H
    replace H : (if 4 ≤ (wrap64 (4 * (wrap64 ((wrap64 ((a0.size : Int) / 4)) - 1)))) then (if (wrap64 (4 * (wrap64 ((wrap64 ((a0.size : Int) / 4)) - 1)))) ≤ (a0.size : Int) then ((crc_Sum.f (a0.extract 4 ((wrap64 (4 * (wrap64 ((wrap64 ((a0.size : Int) / 4)) - 1)))) : Int).toNat)).bind fun t136 => (if t135 = t136 then (if 0 ≤ (wrap64 ((wrap64 ((a0.size : Int) / 4)) - 1)) then (if (wrap64 ((wrap64 ((a0.size : Int) / 4)) - 1) : Int).toNat ≤ 35184372088832 then ((some (List.replicate (wrap64 ((wrap64 ((a0.size : Int) / 4)) - 1) : Int).toNat 0 : List Int)).bind fun y137 => (wire_Take.l0 kj1 a0 y137 (y137.length : Int) 0)) else (none)) else (none)) else (some (0, 0, 0, 0, 0, 0, 0, 0, 0, 0, ([] : List Int), 9)))) else (none)) else (none)) = some (r1, r2, r3, r4, r5, r6, r7, r8, r9, r10, r11, r12) := H
    have A9 := Aside0.mk A90
    clear A90
    by_cases c10 : 4 ≤ (wrap64 (4 * (wrap64 ((wrap64 ((a0.size : Int) / 4)) - 1))))
    ·rw [if_pos c10] at H
     have c10b0 := eq_true c10
     have c10b1 : decide (4 ≤ (wrap64 (4 * (wrap64 ((wrap64 ((a0.size : Int) / 4)) - 1))))) = true := decide_eq_true c10
     clear c10
     by_cases c11 : (wrap64 (4 * (wrap64 ((wrap64 ((a0.size : Int) / 4)) - 1)))) ≤ (a0.size : Int)
     ·rw [if_pos c11] at H
      have c11b0 := eq_true c11
      have c11b1 : decide ((wrap64 (4 * (wrap64 ((wrap64 ((a0.size : Int) / 4)) - 1)))) ≤ (a0.size : Int)) = true := decide_eq_true c11
      clear c11
      replace H := Option.bind_eq_some_iff.mp H
      obtain ⟨t136, A120, H⟩ := H
      replace H : (if t135 = t136 then (if 0 ≤ (wrap64 ((wrap64 ((a0.size : Int) / 4)) - 1)) then (if (wrap64 ((wrap64 ((a0.size : Int) / 4)) - 1) : Int).toNat ≤ 35184372088832 then ((some (List.replicate (wrap64 ((wrap64 ((a0.size : Int) / 4)) - 1) : Int).toNat 0 : List Int)).bind fun y137 => (wire_Take.l0 kj1 a0 y137 (y137.length : Int) 0)) else (none)) else (none)) else (some (0, 0, 0, 0, 0, 0, 0, 0, 0, 0, ([] : List Int), 9))) = some (r1, r2, r3, r4, r5, r6, r7, r8, r9, r10, r11, r12) := H
      have A12 := Aside0.mk A120
      clear A120
      by_cases c13 : t135 = t136
      ·rw [if_pos c13] at H
       have c13b0 : (t135 == t136) = true := beq_iff_eq.mpr c13
       have c13b1 : (t135 != t136) = false := bne_eq_false_iff_eq.mpr c13
       clear c13
       obtain ⟨ji14, hji14⟩ : ∃ j_ : Int, (wrap64 ((wrap64 ((a0.size : Int) / 4)) - 1)) = j_ := ⟨_, rfl⟩
       replace H : (if 0 ≤ (ji14) then (if (ji14 : Int).toNat ≤ 35184372088832 then ((some (List.replicate (ji14 : Int).toNat 0 : List Int)).bind fun y137 => (wire_Take.l0 kj1 a0 y137 (y137.length : Int) 0)) else (none)) else (none)) = some (r1, r2, r3, r4, r5, r6, r7, r8, r9, r10, r11, r12) := by first | (rw [hji14] at H; exact H) | (simp only [hji14] at H ⊢; exact H)
       (try rw [hji14] at c10b0)
       (try rw [hji14] at c10b1)
       (try rw [hji14] at c11b0)
       (try rw [hji14] at c11b1)
       (try rw [hji14] at A9)
       (try rw [hji14] at A12)
       have hji14w : (IntKind.i64.wrap ((wrap64 ((a0.size : Int) / 4)) - 1)) = ji14 := (i64_w _).trans hji14
       by_cases c15 : 0 ≤ (ji14)
       ·rw [if_pos c15] at H
        have c15b0 := eq_true c15
        have c15b1 : decide (0 ≤ (ji14)) = true := decide_eq_true c15
        clear c15
        by_cases c16 : (ji14 : Int).toNat ≤ 35184372088832
        ·rw [if_pos c16] at H
         have c16b0 := eq_true c16
         have c16b1 : decide ((ji14 : Int).toNat ≤ 35184372088832) = true := decide_eq_true c16
         clear c16
         obtain ⟨y137, hy137⟩ : ∃ y_ : List Int, y_ = (List.replicate (ji14 : Int).toNat 0) := ⟨_, rfl⟩
         replace H : (wire_Take.l0 kj1 a0 y137 (y137.length : Int) 0) = some (r1, r2, r3, r4, r5, r6, r7, r8, r9, r10, r11, r12) := by first | (rw [hy137]; with_reducible exact H) | (have H2_ := (Option.bind_some _ _).symm.trans H; rw [hy137]; with_reducible exact H2_) | (have H2_ := (Option.bind_some _ _).symm.trans H; with_reducible exact H2_) | with_reducible exact H | (rw [hy137]; exact H) | exact H
         have Ny137 := Aside0.mk hy137
         clear hy137
         have H' := Aside0.mk H
         clear H
         try go_wp2
         have n0_ := Aside0.mk (blk_drew BK133.out)
         have n1_ := Aside0.mk (below_drew1 HB.out)
         clear BK133
         clear HB
         have BK133 := n0_
         have HB := n1_
         clear n0_ n1_
         refine start_ (n := 9) (S := fun w' => True) (ds := []) #[false, false, false, false, false, false, false, false, false] (by kernel_rfl) rfl rfl trivial (fun hHeld => ?_); refine with_tabW wire_Take.tab4 wire_Take.bits4 (fun HT_ HW_ => ?_)
         generalize wc.drew = w17 at BK133 HB hHeld ⊢
         refine pure_ (i := 0) (N := some 32) (v := ?_) (a' := ?_) #[true, false, false, false, false, false, false, false, false] rfl rfl (any_of HT_.out (by kernel_rfl)) (fun _ _ _ h => h) (Or.inl ⟨by rfl, ?_⟩) ?_ ?_
         rotate_left
         ·intro w'
          go_simp
          with_reducible rfl
         rotate_left
         ·simp only [Act.put, List.setIfInBounds_toArray, List.set_cons_zero, List.set_cons_succ, i64_w, i32_w]
          rfl
         refine pure_ (i := 1) (N := some 33) (v := ?_) (a' := ?_) #[true, true, false, false, false, false, false, false, false] rfl rfl (any_of HT_.out (by kernel_rfl)) (fun _ _ _ h => h) (Or.inl ⟨by rfl, ?_⟩) ?_ ?_
         rotate_left
         ·intro w'
          go_simp
          with_reducible rfl
         rotate_left
         ·simp only [Act.put, List.setIfInBounds_toArray, List.set_cons_zero, List.set_cons_succ, i64_w, i32_w]
          rfl
         refine pure_ (i := 3) (N := some 35) (v := ?_) (a' := ?_) #[true, true, false, true, false, false, false, false, false] rfl rfl (any_of HT_.out (by kernel_rfl)) (fun _ _ _ h => h) (Or.inl ⟨by rfl, ?_⟩) ?_ ?_
         rotate_left
         ·intro w'
          go_simp
          with_reducible rfl
         rotate_left
         ·simp only [Act.put, List.setIfInBounds_toArray, List.set_cons_zero, List.set_cons_succ, i64_w, i32_w]
          rfl
         refine pure_ (i := 4) (N := some 36) (v := ?_) (a' := ?_) #[true, true, false, true, true, false, false, false, false] rfl rfl (any_of HT_.out (by kernel_rfl)) (fun _ _ _ h => h) (Or.inl ⟨by rfl, ?_⟩) ?_ ?_
         rotate_left
         ·intro w'
          go_simp
          with_reducible rfl
         rotate_left
         ·simp only [Act.put, List.setIfInBounds_toArray, List.set_cons_zero, List.set_cons_succ, i64_w, i32_w]
          rfl
         refine pure_ (i := 5) (N := some 37) (v := ?_) (a' := ?_) #[true, true, false, true, true, true, false, false, false] rfl rfl (any_of HT_.out (by kernel_rfl)) (fun _ _ _ h => h) (Or.inl ⟨by rfl, ?_⟩) ?_ ?_
         rotate_left
         ·intro w'
          go_simp
          with_reducible rfl
         rotate_left
         ·simp only [Act.put, List.setIfInBounds_toArray, List.set_cons_zero, List.set_cons_succ, i64_w, i32_w]
          rfl
         refine pure_ (i := 6) (N := some 38) (v := ?_) (a' := ?_) #[true, true, false, true, true, true, true, false, false] rfl rfl (any_of HT_.out (by kernel_rfl)) (fun _ _ _ h => h) (Or.inl ⟨by rfl, ?_⟩) ?_ ?_
         rotate_left
         ·intro w'
          go_simp
          with_reducible rfl
         rotate_left
         ·simp only [Act.put, List.setIfInBounds_toArray, List.set_cons_zero, List.set_cons_succ, i64_w, i32_w]
          rfl
         refine one_ (i := 2) (N := some 34) #[true, true, true, true, true, true, true, false, false] rfl rfl (one_of HT_.out (by kernel_rfl)) (by decide) (fun K hK => ?_)
         refine goes_ Try.func40 (by kernel_rfl) rfl #[.string a0, .int .i64 ji14] (by rfl) rfl rfl (by (try simp only [List.map_toArray, List.map_cons, List.map_nil]); first | done | (simp only [hji14]; rfl) | rfl | (simp only [ByteArray.size_append, Int.natCast_add, List.length_drop, List.length_take]; first | done | rfl) | (simp only [List.length_drop, List.length_take]; rfl)) ?_
         with_reducible refine (wire_number.calls kj1 a0 ji14 t135 _ A9.out).mono ?_
         rintro e w' ⟨rfl, ⟨nd, rfl⟩⟩
         refine ⟨_, rfl, ?_⟩
         refine hK.out _ _ trivial (fun hHeld => ?_)
         clear hK K
         refine norm_ (a' := ?_) ?_ ?_
         rotate_left
         ·show Act.put _ (some 34) _ = _
          simp only [Act.put, List.setIfInBounds_toArray, List.set_cons_zero, List.set_cons_succ, i64_w, i32_w]
          rfl
         refine one_ (i := 7) (N := some 39) #[true, true, true, true, true, true, true, true, false] rfl rfl (one_of HT_.out (by kernel_rfl)) (by decide) (fun K hK => ?_)
         refine goes_ Try.func16 (by kernel_rfl) rfl #[.string (a0.extract 4 ((wrap64 (4 * (ji14))) : Int).toNat)] (by rfl) rfl rfl (by (try simp only [List.map_toArray, List.map_cons, List.map_nil]); first | done | (simp only [hji14]; rfl) | rfl | (simp only [ByteArray.size_append, Int.natCast_add, List.length_drop, List.length_take]; first | done | rfl) | (simp only [List.length_drop, List.length_take]; rfl)) ?_
         with_reducible refine (crc_Sum.calls (a0.extract 4 ((wrap64 (4 * (ji14))) : Int).toNat) t136 _ A12.out).mono ?_
         rintro e w18 ⟨rfl, hb⟩
         refine ⟨_, rfl, ?_⟩
         have n0_ := Aside0.mk (blk_below (g := gb133) (o := .cells #[.int .i64 0, .int .i64 0, .int .i64 0, .int .i64 0, .int .i64 0, .int .i64 0, .int .i64 0, .int .i64 0, .int .i64 0, .int .i64 0, .slice none 0 0] 32 (0, 0)) (by (with_reducible repeat (first | refine blk_drewN ?_ _ | refine blk_drew ?_ | refine blk_alloc ?_ _)); exact BK133.out) hb)
         have n1_ := Aside0.mk (below_step (by repeat (first | (with_reducible first | exact HB.out | apply below_alloc | apply pw_below_drewN | apply below_drew1 | refine below_set ?_ GE133.out) | exact HB.out)) hb)
         clear BK133
         clear HB
         have BK133 := n0_
         have HB := n1_
         clear n0_ n1_
         (try clear hb)
         (try clear hb2)
         (try clear hk)
         (try clear hi)
         refine hK.out _ _ trivial (fun hHeld => ?_)
         clear hK K
         refine norm_ (a' := ?_) ?_ ?_
         rotate_left
         ·show Act.put _ (some 39) _ = _
          simp only [Act.put, List.setIfInBounds_toArray, List.set_cons_zero, List.set_cons_succ, i64_w, i32_w]
          rfl
         refine pure_ (i := 8) (N := some 40) (v := ?_) (a' := ?_) #[true, true, true, true, true, true, true, true, true] rfl rfl (any_of HT_.out (by kernel_rfl)) (fun _ _ _ h => h) (Or.inl ⟨by rfl, ?_⟩) ?_ ?_
         rotate_left
         ·intro w'
          go_simp
          with_reducible rfl
         rotate_left
         ·simp only [Act.put, List.setIfInBounds_toArray, List.set_cons_zero, List.set_cons_succ, i64_w, i32_w]
          rfl
         refine done_ (done_of HT_.out (by kernel_rfl)) ?_
         try go_wp2_with (first | ((with_reducible refine gate_dst (N := 43) rfl ?_); (try (refine gate_guard (by rfl) ?_; dsimp only)); refine Kd.R_make (Kd.int .i64) _ 3 rfl (N := 43) rfl 30 _ _ rfl ji14 rfl rfl Try.underlying30 (.int .i64 0) 8 info3 rfl (by decide) (by omega) 0 (ok := fun _ => True) (okp := fun _ => True) rfl (fun _ hk => hk) trivial (of_decide_eq_true (by first | (with_reducible assumption) | assumption)) (Nat.le_trans (Nat.mul_le_mul_right _ (of_decide_eq_true (by first | (with_reducible assumption) | assumption) : ji14.toNat ≤ 35184372088832)) (by omega)) (Below.refl _ _) (Nat.le_refl _) ?_; intro v138 w19 ho20 hb hg_ hnew_; clear hg_ hnew_; (first | rw [← Ny137.out] at ho20 | (simp only [Int.reduceToNat] at ho20; rw [← Ny137.out] at ho20)); have n0_ := Aside0.mk (Kd.R_lower ho20 (below_size (by repeat (first | (with_reducible first | exact HB.out | apply below_alloc | apply pw_below_drewN | apply below_drew1 | refine below_set ?_ GE133.out) | exact HB.out)))); have n1_ := Aside0.mk (blk_below (g := gb133) (o := .cells #[.int .i64 0, .int .i64 0, .int .i64 0, .int .i64 0, .int .i64 0, .int .i64 0, .int .i64 0, .int .i64 0, .int .i64 0, .int .i64 0, .slice none 0 0] 32 (0, 0)) (by (with_reducible repeat (first | refine blk_drewN ?_ _ | refine blk_drew ?_ | refine blk_alloc ?_ _)); exact BK133.out) hb); have n2_ := Aside0.mk (below_step (by repeat (first | (with_reducible first | exact HB.out | apply below_alloc | apply pw_below_drewN | apply below_drew1 | refine below_set ?_ GE133.out) | exact HB.out)) hb); clear BK133; clear HB; have HO139 := n0_; have BK133 := n1_; have HB := n2_; clear n0_ n1_ n2_; clear hb ho20; obtain ⟨Ao21, co21, eo21⟩ := Kd.R_slice HO139.out; subst eo21))
         go_loopg [46] kj1 (fun kq v46 w' => ∃ (x5_2 : List Int) (x46_2 : Int), v46 = .int .i64 x46_2 ∧ Aside0 (wire_Take.l0 kq a0 x5_2 (y137.length : Int) x46_2 = some (r1, r2, r3, r4, r5, r6, r7, r8, r9, r10, r11, r12)) ∧ Aside0 (kq ≤ kj1) ∧ Aside0 (Kd.R (Kd.int .i64) 3 w' w.heap.size (fun _ => True) (.slice Ao21 y137.length co21) x5_2) ∧ Aside0 (w'.heap[gb133]? = some (.cells #[.int .i64 0, .int .i64 0, .int .i64 0, .int .i64 0, .int .i64 0, .int .i64 0, .int .i64 0, .int .i64 0, .int .i64 0, .int .i64 0, (.slice none 0 0)] 32 (0, 0))) ∧ Aside0 (Below w.heap.size w w'))
         case atStart => exact ⟨(y137), (0), (by first | rfl | (simp; done) | (simp [*]; done)), H', ⟨Nat.le_refl _⟩, ⟨by (with_reducible repeat (first | apply Kd.R_alloc | apply Kd.R_drewN | apply Kd.R_drew)); exact HO139.out⟩, ⟨by (with_reducible repeat (first | refine blk_drewN ?_ _ | refine blk_drew ?_ | refine blk_alloc ?_ _)); exact BK133.out⟩, ⟨by repeat (first | (with_reducible first | exact HB.out | apply below_alloc | apply pw_below_drewN | apply below_drew1 | refine below_set ?_ GE133.out) | exact HB.out)⟩⟩
         case round =>
          clear H'
          try clear c1
          try clear c2
          try clear p2
          try clear c4
          try clear c4b0
          try clear c4b1
          try clear c6
          try clear c6b0
          try clear c6b1
          try clear p6
          try clear c7
          try clear c10
          try clear c10b0
          try clear c10b1
          try clear c11
          try clear c11b0
          try clear c11b1
          try clear c13
          try clear c13b0
          try clear c13b1
          try clear c15
          try clear c15b0
          try clear c15b1
          try clear c16
          try clear c16b0
          try clear c16b1
          try clear hcz8_0
          try clear hcz8_1
          try clear hcz8_10
          try clear hcz8_2
          try clear hcz8_3
          try clear hcz8_4
          try clear hcz8_5
          try clear hcz8_6
          try clear hcz8_7
          try clear hcz8_8
          try clear hcz8_9
          try clear hfz8_0
          try clear hfz8_1
          try clear hfz8_10
          try clear hfz8_2
          try clear hfz8_3
          try clear hfz8_4
          try clear hfz8_5
          try clear hfz8_6
          try clear hfz8_7
          try clear hfz8_8
          try clear hfz8_9
          try clear p2
          try clear p6
          obtain ⟨x5_2, x46_2, rfl, HA, HK2, HO_5, BK133, HB⟩ := hrel
          have hl5_2 := (Kd.R_reads' HO_5.out).1
          rw [hl5_2] at HO_5
          (try simp only [hl5_2])
          (try simp only [hl5_2] at BK133)
          cases gk with
          | zero => exact absurd HA.out (by simp [wire_Take.l0])
          | succ k2 =>
           have H := HA.out
           clear HA
           simp only [wire_Take.l0] at H
           by_cases c22 : x46_2 < (y137.length : Int)
           ·rw [if_pos c22] at H
            have c22b0 : decide (x46_2 < (y137.length : Int)) = true := decide_eq_true c22
            have c22b0l := c22b0
            (try simp only [hl5_2] at c22b0l)
            clear c22
            replace H := Option.bind_eq_some_iff.mp H
            obtain ⟨t140, A230, H⟩ := H
            replace H : (if 0 ≤ x46_2 then (if x46_2 < (x5_2.length : Int) then (wire_Take.l0 k2 a0 (x5_2.set (x46_2 : Int).toNat t140) (y137.length : Int) (wrap64 (x46_2 + 1))) else (none)) else (none)) = some (r1, r2, r3, r4, r5, r6, r7, r8, r9, r10, r11, r12) := H
            have A23 := Aside0.mk A230
            clear A230
            by_cases c24 : 0 ≤ x46_2
            ·rw [if_pos c24] at H
             have c24b0 : decide (0 ≤ x46_2) = true := decide_eq_true c24
             clear c24
             by_cases c25 : x46_2 < (x5_2.length : Int)
             ·rw [if_pos c25] at H
              have c25b0 : decide (x46_2 < (x5_2.length : Int)) = true := decide_eq_true c25
              have c25b0l := c25b0
              (try simp only [hl5_2] at c25b0l)
              clear c25
              obtain ⟨y141, hy141⟩ : ∃ y_ : List Int, y_ = (x5_2.set (x46_2 : Int).toNat t140) := ⟨_, rfl⟩
              replace H : (wire_Take.l0 k2 a0 y141 (y137.length : Int) (wrap64 (x46_2 + 1))) = some (r1, r2, r3, r4, r5, r6, r7, r8, r9, r10, r11, r12) := by first | (rw [hy141]; with_reducible exact H) | (have H2_ := (Option.bind_some _ _).symm.trans H; rw [hy141]; with_reducible exact H2_) | (have H2_ := (Option.bind_some _ _).symm.trans H; with_reducible exact H2_) | with_reducible exact H | (rw [hy141]; exact H) | exact H
              have Ny141 := Aside0.mk hy141
              clear hy141
              have H' := Aside0.mk H
              clear H
              go_wp2_with (first | ((with_reducible refine gate_callee (f := 40) rfl ?_); refine goesL_ (some 53) rfl rfl Try.func40 (by kernel_rfl) rfl #[.string a0, .int .i64 x46_2] rfl (by (try simp only [List.map_toArray, List.map_cons, List.map_nil]); first | done | rfl | (simp only [ByteArray.size_append, Int.natCast_add, List.length_drop, List.length_take]; first | done | rfl) | (simp only [List.length_drop, List.length_take]; rfl)) ?_; (with_reducible refine (wire_number.calls k2 a0 x46_2 t140 _ A23.out).mono ?_); rintro e w' ⟨rfl, ⟨nd, rfl⟩⟩; refine ⟨_, rfl, ?_⟩; (try (rw [drewN_self wr]; generalize hq_ : World.drewN wr _ = wr; have n0_ : Aside0 (Kd.R (Kd.int .i64) 3 wr w.heap.size (fun _ => True) (.slice Ao21 x5_2.length co21) x5_2) := ⟨by rw [← hq_]; exact (by (with_reducible repeat (first | apply Kd.R_alloc | apply Kd.R_drewN | apply Kd.R_drew)); exact HO_5.out)⟩; have n1_ : Aside0 (wr.heap[gb133]? = some (.cells #[.int .i64 0, .int .i64 0, .int .i64 0, .int .i64 0, .int .i64 0, .int .i64 0, .int .i64 0, .int .i64 0, .int .i64 0, .int .i64 0, .slice none 0 0] 32 (0, 0))) := ⟨by rw [← hq_]; exact (by (with_reducible repeat (first | refine blk_drewN ?_ _ | refine blk_drew ?_ | refine blk_alloc ?_ _)); exact BK133.out)⟩; have n2_ : Aside0 (Below w.heap.size w wr) := ⟨by rw [← hq_]; exact (by repeat (first | (with_reducible first | exact HB.out | apply below_alloc | apply pw_below_drewN | apply below_drew1 | refine below_set ?_ GE133.out) | exact HB.out))⟩; clear HO_5 BK133 HB hq_; have HO_5 := n0_; have BK133 := n1_; have HB := n2_; clear n0_ n1_ n2_)); have p26 : 0 ≤ (x46_2 : Int) := of_decide_eq_true (by first | (with_reducible assumption) | assumption); have q26 : (x46_2 : Int) < ((x5_2.length : Int) : Int) := of_decide_eq_true (by first | (with_reducible assumption) | assumption); obtain ⟨go26, co26, eo26, gb26, gl26, cl26, HG26⟩ := Kd.R_form HO_5.out (by omega); (first | cases eo26 | (injection eo26 with ea_ en_ ec_; (first | subst ea_ | (injection ea_ with ea_; subst ea_)); subst ec_; clear en_)); have GB26 := Aside0.mk gb26; have GG26 := Aside0.mk HG26; clear gb26 gl26 HG26; obtain ⟨hx26_0, hf26_0⟩ := Kd.R_celln 0 HO_5.out (x46_2 : Int) p26 q26; replace p26 := eq_true p26; replace q26 := eq_true q26; obtain ⟨hy27_, hz27_⟩ := Kd.R_celln 0 HO_5.out (x46_2 : Int) (of_decide_eq_true (by first | (with_reducible assumption) | assumption)) (of_decide_eq_true (by first | (with_reducible assumption) | assumption)); have HP27 := Kd.R_putg HO_5.out (x46_2 : Int) t140) | ((with_reducible refine gate_store (t := 3) (p := 54) rfl ?_); refine store_event (t := 3) (p := 54) (v := ?vo_w28) (w1 := (wr.setCell ⟨go26, (x46_2 : Int).toNat, none⟩ (.int .i64 t140))) ?hg ?ho ?hn ?hr ?_; (case ho => rfl); (case hg => rfl); (case hn => rfl); (case hr => first | (go_simp; done) | (go_simp; rfl)); intro w28 hw; have hg : wr.grownBy w28 (some go26) := (by rw [hw]; exact HP27.2); have hp_ : Kd.R (Kd.int .i64) 3 w28 w.heap.size (fun _ => True) (.slice (some ⟨go26, 0, none⟩) x5_2.length co21) y141 := (by rw [hw, Ny141.out]; exact HP27.1); clear HP27; have n0_ := Aside0.mk (hp_); have n1_ := Aside0.mk (blk_grown (g := gb133) (o := .cells #[.int .i64 0, .int .i64 0, .int .i64 0, .int .i64 0, .int .i64 0, .int .i64 0, .int .i64 0, .int .i64 0, .int .i64 0, .int .i64 0, .slice none 0 0] 32 (0, 0)) (by (with_reducible repeat (first | refine blk_drewN ?_ _ | refine blk_drew ?_ | refine blk_alloc ?_ _)); exact BK133.out) hg (Kd.R_ne HO_5.out BK133.out (by decide))); have n2_ := Aside0.mk ((by rw [hw]; exact below_set (HB.out) GB26.out : Below w.heap.size w w28)); clear HO_5; clear BK133; clear HB; have HO_5 := n0_; have BK133 := n1_; have HB := n2_; clear n0_ n1_ n2_; clear hg hw hp_))
              (try simp only [← hl5_2])
              go_roundg k2
              case measure => have := HJ1.out; have := HK2.out; omega
              case rel => exact ⟨(y141), (wrap64 (x46_2 + 1)), (by first | rfl | (simp; done) | (simp [*]; done)), H', ⟨by have := HJ1.out; have := HK2.out; omega⟩, ⟨by (try simp only [hl5_2]); (with_reducible repeat (first | apply Kd.R_alloc | apply Kd.R_drewN | apply Kd.R_drew)); exact HO_5.out⟩, ⟨by (try simp only [hl5_2]); (with_reducible repeat (first | refine blk_drewN ?_ _ | refine blk_drew ?_ | refine blk_alloc ?_ _)); exact BK133.out⟩, ⟨by repeat (first | (with_reducible first | exact HB.out | apply below_alloc | apply pw_below_drewN | apply below_drew1 | refine below_set ?_ GE133.out) | exact HB.out)⟩⟩
             ·rw [if_neg c25] at H
              exact absurd H (by simp)
            ·rw [if_neg c24] at H
             exact absurd H (by simp)
           ·rw [if_neg c22] at H
            have c22b0 : decide (x46_2 < (y137.length : Int)) = false := decide_eq_false c22
            have c22b0l := c22b0
            (try simp only [hl5_2] at c22b0l)
            clear c22
            by_cases c29 : 1 < (x5_2.length : Int)
            ·rw [if_pos c29] at H
             have c29b0 : decide (1 < (x5_2.length : Int)) = true := decide_eq_true c29
             have c29b0l := c29b0
             (try simp only [hl5_2] at c29b0l)
             have c29b1 : decide (1 < x5_2.length) = true := decide_eq_true (by omega)
             have c29b1l := c29b1
             (try simp only [hl5_2] at c29b1l)
             clear c29
             by_cases c30 : 2 < (x5_2.length : Int)
             ·rw [if_pos c30] at H
              have c30b0 : decide (2 < (x5_2.length : Int)) = true := decide_eq_true c30
              have c30b0l := c30b0
              (try simp only [hl5_2] at c30b0l)
              have c30b1 : decide (2 < x5_2.length) = true := decide_eq_true (by omega)
              have c30b1l := c30b1
              (try simp only [hl5_2] at c30b1l)
              clear c30
              by_cases c31 : 3 < (x5_2.length : Int)
              ·rw [if_pos c31] at H
               have c31b0 : decide (3 < (x5_2.length : Int)) = true := decide_eq_true c31
               have c31b0l := c31b0
               (try simp only [hl5_2] at c31b0l)
               have c31b1 : decide (3 < x5_2.length) = true := decide_eq_true (by omega)
               have c31b1l := c31b1
               (try simp only [hl5_2] at c31b1l)
               clear c31
               by_cases c32 : 4 < (x5_2.length : Int)
               ·rw [if_pos c32] at H
                have c32b0 : decide (4 < (x5_2.length : Int)) = true := decide_eq_true c32
                have c32b0l := c32b0
                (try simp only [hl5_2] at c32b0l)
                have c32b1 : decide (4 < x5_2.length) = true := decide_eq_true (by omega)
                have c32b1l := c32b1
                (try simp only [hl5_2] at c32b1l)
                clear c32
                by_cases c33 : 5 < (x5_2.length : Int)
                ·rw [if_pos c33] at H
                 have c33b0 : decide (5 < (x5_2.length : Int)) = true := decide_eq_true c33
                 have c33b0l := c33b0
                 (try simp only [hl5_2] at c33b0l)
                 have c33b1 : decide (5 < x5_2.length) = true := decide_eq_true (by omega)
                 have c33b1l := c33b1
                 (try simp only [hl5_2] at c33b1l)
                 clear c33
                 by_cases c34 : 6 < (x5_2.length : Int)
                 ·rw [if_pos c34] at H
                  have c34b0 : decide (6 < (x5_2.length : Int)) = true := decide_eq_true c34
                  have c34b0l := c34b0
                  (try simp only [hl5_2] at c34b0l)
                  have c34b1 : decide (6 < x5_2.length) = true := decide_eq_true (by omega)
                  have c34b1l := c34b1
                  (try simp only [hl5_2] at c34b1l)
                  clear c34
                  by_cases c35 : 7 < (x5_2.length : Int)
                  ·rw [if_pos c35] at H
                   have c35b0 : decide (7 < (x5_2.length : Int)) = true := decide_eq_true c35
                   have c35b0l := c35b0
                   (try simp only [hl5_2] at c35b0l)
                   have c35b1 : decide (7 < x5_2.length) = true := decide_eq_true (by omega)
                   have c35b1l := c35b1
                   (try simp only [hl5_2] at c35b1l)
                   clear c35
                   by_cases c36 : 8 < (x5_2.length : Int)
                   ·rw [if_pos c36] at H
                    have c36b0 : decide (8 < (x5_2.length : Int)) = true := decide_eq_true c36
                    have c36b0l := c36b0
                    (try simp only [hl5_2] at c36b0l)
                    have c36b1 : decide (8 < x5_2.length) = true := decide_eq_true (by omega)
                    have c36b1l := c36b1
                    (try simp only [hl5_2] at c36b1l)
                    clear c36
                    by_cases c37 : 9 < (x5_2.length : Int)
                    ·rw [if_pos c37] at H
                     have c37b0 : decide (9 < (x5_2.length : Int)) = true := decide_eq_true c37
                     have c37b0l := c37b0
                     (try simp only [hl5_2] at c37b0l)
                     have c37b1 : decide (9 < x5_2.length) = true := decide_eq_true (by omega)
                     have c37b1l := c37b1
                     (try simp only [hl5_2] at c37b1l)
                     clear c37
                     by_cases c38 : 10 < (x5_2.length : Int)
                     ·rw [if_pos c38] at H
                      have c38b0 : decide (10 < (x5_2.length : Int)) = true := decide_eq_true c38
                      have c38b0l := c38b0
                      (try simp only [hl5_2] at c38b0l)
                      have c38b1 : decide (10 < x5_2.length) = true := decide_eq_true (by omega)
                      have c38b1l := c38b1
                      (try simp only [hl5_2] at c38b1l)
                      clear c38
                      by_cases c39 : 12 ≤ (x5_2.length : Int)
                      ·rw [if_pos c39] at H
                       have c39b0 := eq_true c39
                       have c39b1 : decide (12 ≤ (x5_2.length : Int)) = true := decide_eq_true c39
                       clear c39
                       obtain ⟨y153, hy153⟩ : ∃ y_ : List Int, y_ = (x5_2.drop 12) := ⟨_, rfl⟩
                       replace H : (wire_Take.l1 k2 x5_2 y153 (y153.length : Int) 0 (rd x5_2 1) (rd x5_2 2) (rd x5_2 3) (rd x5_2 4) (rd x5_2 5) (rd x5_2 6) (rd x5_2 7) (rd x5_2 8) (rd x5_2 9) (rd x5_2 10) ([] : List Int)) = some (r1, r2, r3, r4, r5, r6, r7, r8, r9, r10, r11, r12) := by first | (rw [hy153]; with_reducible exact H) | (have H2_ := (Option.bind_some _ _).symm.trans H; rw [hy153]; with_reducible exact H2_) | (have H2_ := (Option.bind_some _ _).symm.trans H; with_reducible exact H2_) | with_reducible exact H | (rw [hy153]; exact H) | exact H
                       have Ny153 := Aside0.mk hy153
                       clear hy153
                       have H' := Aside0.mk H
                       clear H
                       try go_wp2
                       have n0_ := Aside0.mk (Kd.R_drew HO_5.out)
                       have n1_ := Aside0.mk (blk_drew BK133.out)
                       have n2_ := Aside0.mk (below_drew1 HB.out)
                       clear HO_5
                       clear BK133
                       clear HB
                       have HO_5 := n0_
                       have BK133 := n1_
                       have HB := n2_
                       clear n0_ n1_ n2_
                       have p142 : 0 ≤ (1 : Int) := (by omega)
                       have q142 : 1 < (x5_2.length : Int) := of_decide_eq_true (by first | (with_reducible assumption) | assumption)
                       obtain ⟨ad142, e142, hx142_0⟩ := Kd.at_int (Kd.R_reads' HO_5.out).2.2 1 p142 q142
                       cases e142
                       (try simp only [show (1 : Int).toNat = 1 from rfl, Nat.reduceMul, Nat.reduceEqDiff, Go.Addr.add, ↓reduceIte] at hx142_0)
                       have qi142 : (1 < x5_2.length) = True := eq_true (by omega)
                       (try rw [show ((1 : Int)).toNat = 1 from rfl] at hx142_0)
                       replace p142 := eq_true p142
                       replace q142 := eq_true q142
                       have p143 : 0 ≤ (2 : Int) := (by omega)
                       have q143 : 2 < (x5_2.length : Int) := of_decide_eq_true (by first | (with_reducible assumption) | assumption)
                       obtain ⟨ad143, e143, hx143_0⟩ := Kd.at_int (Kd.R_reads' HO_5.out).2.2 2 p143 q143
                       obtain rfl : ad142 = ad143 := (by injection e143)
                       (try simp only [show (2 : Int).toNat = 2 from rfl, Nat.reduceMul, Nat.reduceEqDiff, Go.Addr.add, ↓reduceIte] at hx143_0)
                       have qi143 : (2 < x5_2.length) = True := eq_true (by omega)
                       (try rw [show ((2 : Int)).toNat = 2 from rfl] at hx143_0)
                       replace p143 := eq_true p143
                       replace q143 := eq_true q143
                       have p144 : 0 ≤ (3 : Int) := (by omega)
                       have q144 : 3 < (x5_2.length : Int) := of_decide_eq_true (by first | (with_reducible assumption) | assumption)
                       obtain ⟨ad144, e144, hx144_0⟩ := Kd.at_int (Kd.R_reads' HO_5.out).2.2 3 p144 q144
                       obtain rfl : ad142 = ad144 := (by injection e144)
                       (try simp only [show (3 : Int).toNat = 3 from rfl, Nat.reduceMul, Nat.reduceEqDiff, Go.Addr.add, ↓reduceIte] at hx144_0)
                       have qi144 : (3 < x5_2.length) = True := eq_true (by omega)
                       (try rw [show ((3 : Int)).toNat = 3 from rfl] at hx144_0)
                       replace p144 := eq_true p144
                       replace q144 := eq_true q144
                       have p145 : 0 ≤ (4 : Int) := (by omega)
                       have q145 : 4 < (x5_2.length : Int) := of_decide_eq_true (by first | (with_reducible assumption) | assumption)
                       obtain ⟨ad145, e145, hx145_0⟩ := Kd.at_int (Kd.R_reads' HO_5.out).2.2 4 p145 q145
                       obtain rfl : ad142 = ad145 := (by injection e145)
                       (try simp only [show (4 : Int).toNat = 4 from rfl, Nat.reduceMul, Nat.reduceEqDiff, Go.Addr.add, ↓reduceIte] at hx145_0)
                       have qi145 : (4 < x5_2.length) = True := eq_true (by omega)
                       (try rw [show ((4 : Int)).toNat = 4 from rfl] at hx145_0)
                       replace p145 := eq_true p145
                       replace q145 := eq_true q145
                       have p146 : 0 ≤ (5 : Int) := (by omega)
                       have q146 : 5 < (x5_2.length : Int) := of_decide_eq_true (by first | (with_reducible assumption) | assumption)
                       obtain ⟨ad146, e146, hx146_0⟩ := Kd.at_int (Kd.R_reads' HO_5.out).2.2 5 p146 q146
                       obtain rfl : ad142 = ad146 := (by injection e146)
                       (try simp only [show (5 : Int).toNat = 5 from rfl, Nat.reduceMul, Nat.reduceEqDiff, Go.Addr.add, ↓reduceIte] at hx146_0)
                       have qi146 : (5 < x5_2.length) = True := eq_true (by omega)
                       (try rw [show ((5 : Int)).toNat = 5 from rfl] at hx146_0)
                       replace p146 := eq_true p146
                       replace q146 := eq_true q146
                       have p147 : 0 ≤ (6 : Int) := (by omega)
                       have q147 : 6 < (x5_2.length : Int) := of_decide_eq_true (by first | (with_reducible assumption) | assumption)
                       obtain ⟨ad147, e147, hx147_0⟩ := Kd.at_int (Kd.R_reads' HO_5.out).2.2 6 p147 q147
                       obtain rfl : ad142 = ad147 := (by injection e147)
                       (try simp only [show (6 : Int).toNat = 6 from rfl, Nat.reduceMul, Nat.reduceEqDiff, Go.Addr.add, ↓reduceIte] at hx147_0)
                       have qi147 : (6 < x5_2.length) = True := eq_true (by omega)
                       (try rw [show ((6 : Int)).toNat = 6 from rfl] at hx147_0)
                       replace p147 := eq_true p147
                       replace q147 := eq_true q147
                       have p148 : 0 ≤ (7 : Int) := (by omega)
                       have q148 : 7 < (x5_2.length : Int) := of_decide_eq_true (by first | (with_reducible assumption) | assumption)
                       obtain ⟨ad148, e148, hx148_0⟩ := Kd.at_int (Kd.R_reads' HO_5.out).2.2 7 p148 q148
                       obtain rfl : ad142 = ad148 := (by injection e148)
                       (try simp only [show (7 : Int).toNat = 7 from rfl, Nat.reduceMul, Nat.reduceEqDiff, Go.Addr.add, ↓reduceIte] at hx148_0)
                       have qi148 : (7 < x5_2.length) = True := eq_true (by omega)
                       (try rw [show ((7 : Int)).toNat = 7 from rfl] at hx148_0)
                       replace p148 := eq_true p148
                       replace q148 := eq_true q148
                       have p149 : 0 ≤ (8 : Int) := (by omega)
                       have q149 : 8 < (x5_2.length : Int) := of_decide_eq_true (by first | (with_reducible assumption) | assumption)
                       obtain ⟨ad149, e149, hx149_0⟩ := Kd.at_int (Kd.R_reads' HO_5.out).2.2 8 p149 q149
                       obtain rfl : ad142 = ad149 := (by injection e149)
                       (try simp only [show (8 : Int).toNat = 8 from rfl, Nat.reduceMul, Nat.reduceEqDiff, Go.Addr.add, ↓reduceIte] at hx149_0)
                       have qi149 : (8 < x5_2.length) = True := eq_true (by omega)
                       (try rw [show ((8 : Int)).toNat = 8 from rfl] at hx149_0)
                       replace p149 := eq_true p149
                       replace q149 := eq_true q149
                       have p150 : 0 ≤ (9 : Int) := (by omega)
                       have q150 : 9 < (x5_2.length : Int) := of_decide_eq_true (by first | (with_reducible assumption) | assumption)
                       obtain ⟨ad150, e150, hx150_0⟩ := Kd.at_int (Kd.R_reads' HO_5.out).2.2 9 p150 q150
                       obtain rfl : ad142 = ad150 := (by injection e150)
                       (try simp only [show (9 : Int).toNat = 9 from rfl, Nat.reduceMul, Nat.reduceEqDiff, Go.Addr.add, ↓reduceIte] at hx150_0)
                       have qi150 : (9 < x5_2.length) = True := eq_true (by omega)
                       (try rw [show ((9 : Int)).toNat = 9 from rfl] at hx150_0)
                       replace p150 := eq_true p150
                       replace q150 := eq_true q150
                       have p151 : 0 ≤ (10 : Int) := (by omega)
                       have q151 : 10 < (x5_2.length : Int) := of_decide_eq_true (by first | (with_reducible assumption) | assumption)
                       obtain ⟨ad151, e151, hx151_0⟩ := Kd.at_int (Kd.R_reads' HO_5.out).2.2 10 p151 q151
                       obtain rfl : ad142 = ad151 := (by injection e151)
                       (try simp only [show (10 : Int).toNat = 10 from rfl, Nat.reduceMul, Nat.reduceEqDiff, Go.Addr.add, ↓reduceIte] at hx151_0)
                       have qi151 : (10 < x5_2.length) = True := eq_true (by omega)
                       (try rw [show ((10 : Int)).toNat = 10 from rfl] at hx151_0)
                       replace p151 := eq_true p151
                       replace q151 := eq_true q151
                       refine start_ (n := 33) (S := fun w' => w'.cell? ⟨ad142.block, ad142.off + 1, none⟩ = some (.int .i64 (rd x5_2 1)) ∧ w'.cell? ⟨ad142.block, ad142.off + 2, none⟩ = some (.int .i64 (rd x5_2 2)) ∧ w'.cell? ⟨ad142.block, ad142.off + 3, none⟩ = some (.int .i64 (rd x5_2 3)) ∧ w'.cell? ⟨ad142.block, ad142.off + 4, none⟩ = some (.int .i64 (rd x5_2 4)) ∧ w'.cell? ⟨ad142.block, ad142.off + 5, none⟩ = some (.int .i64 (rd x5_2 5)) ∧ w'.cell? ⟨ad142.block, ad142.off + 6, none⟩ = some (.int .i64 (rd x5_2 6)) ∧ w'.cell? ⟨ad142.block, ad142.off + 7, none⟩ = some (.int .i64 (rd x5_2 7)) ∧ w'.cell? ⟨ad142.block, ad142.off + 8, none⟩ = some (.int .i64 (rd x5_2 8)) ∧ w'.cell? ⟨ad142.block, ad142.off + 9, none⟩ = some (.int .i64 (rd x5_2 9)) ∧ w'.cell? ⟨ad142.block, ad142.off + 10, none⟩ = some (.int .i64 (rd x5_2 10))) (ds := []) #[false, false, false, false, false, false, false, false, false, false, false, false, false, false, false, false, false, false, false, false, false, false, false, false, false, false, false, false, false, false, false, false, false] (by kernel_rfl) rfl rfl ⟨hx142_0, hx143_0, hx144_0, hx145_0, hx146_0, hx147_0, hx148_0, hx149_0, hx150_0, hx151_0⟩ (fun hHeld => ?_); refine with_tabW wire_Take.tab12 wire_Take.bits12 (fun HT_ HW_ => ?_)
                       generalize wr.drew = w40 at HO_5 BK133 HB hx142_0 hx143_0 hx144_0 hx145_0 hx146_0 hx147_0 hx148_0 hx149_0 hx150_0 hx151_0 hHeld ⊢
                       refine pure_ (i := 0) (N := some 56) (v := ?_) (a' := ?_) #[true, false, false, false, false, false, false, false, false, false, false, false, false, false, false, false, false, false, false, false, false, false, false, false, false, false, false, false, false, false, false, false, false] rfl rfl (any_of HT_.out (by kernel_rfl)) (fun _ _ _ h => h) (Or.inl ⟨by rfl, ?_⟩) ?_ ?_
                       rotate_left
                       ·intro w'
                        go_simp
                        with_reducible rfl
                       rotate_left
                       ·simp only [Act.put, List.setIfInBounds_toArray, List.set_cons_zero, List.set_cons_succ, i64_w, i32_w]
                        rfl
                       refine pure_ (i := 1) (N := some 57) (v := ?_) (a' := ?_) #[true, true, false, false, false, false, false, false, false, false, false, false, false, false, false, false, false, false, false, false, false, false, false, false, false, false, false, false, false, false, false, false, false] rfl rfl (any_of HT_.out (by kernel_rfl)) (fun _ _ _ h => h) (Or.inl ⟨by rfl, ?_⟩) ?_ ?_
                       rotate_left
                       ·intro w'
                        go_simp
                        with_reducible rfl
                       rotate_left
                       ·simp only [Act.put, List.setIfInBounds_toArray, List.set_cons_zero, List.set_cons_succ, i64_w, i32_w]
                        rfl
                       refine pure_ (i := 3) (N := some 59) (v := ?_) (a' := ?_) #[true, true, false, true, false, false, false, false, false, false, false, false, false, false, false, false, false, false, false, false, false, false, false, false, false, false, false, false, false, false, false, false, false] rfl rfl (any_of HT_.out (by kernel_rfl)) (fun _ _ _ h => h) (Or.inl ⟨by rfl, ?_⟩) ?_ ?_
                       rotate_left
                       ·intro w'
                        go_simp
                        with_reducible rfl
                       rotate_left
                       ·simp only [Act.put, List.setIfInBounds_toArray, List.set_cons_zero, List.set_cons_succ, i64_w, i32_w]
                        rfl
                       refine pure_ (i := 4) (N := some 60) (v := ?_) (a' := ?_) #[true, true, false, true, true, false, false, false, false, false, false, false, false, false, false, false, false, false, false, false, false, false, false, false, false, false, false, false, false, false, false, false, false] rfl rfl (any_of HT_.out (by kernel_rfl)) (fun _ _ _ h => h) (Or.inl ⟨by rfl, ?_⟩) ?_ ?_
                       rotate_left
                       ·intro w'
                        go_simp
                        with_reducible rfl
                       rotate_left
                       ·simp only [Act.put, List.setIfInBounds_toArray, List.set_cons_zero, List.set_cons_succ, i64_w, i32_w]
                        rfl
                       refine pure_ (i := 6) (N := some 62) (v := ?_) (a' := ?_) #[true, true, false, true, true, false, true, false, false, false, false, false, false, false, false, false, false, false, false, false, false, false, false, false, false, false, false, false, false, false, false, false, false] rfl rfl (any_of HT_.out (by kernel_rfl)) (fun _ _ _ h => h) (Or.inl ⟨by rfl, ?_⟩) ?_ ?_
                       rotate_left
                       ·intro w'
                        go_simp
                        with_reducible rfl
                       rotate_left
                       ·simp only [Act.put, List.setIfInBounds_toArray, List.set_cons_zero, List.set_cons_succ, i64_w, i32_w]
                        rfl
                       refine pure_ (i := 7) (N := some 63) (v := ?_) (a' := ?_) #[true, true, false, true, true, false, true, true, false, false, false, false, false, false, false, false, false, false, false, false, false, false, false, false, false, false, false, false, false, false, false, false, false] rfl rfl (any_of HT_.out (by kernel_rfl)) (fun _ _ _ h => h) (Or.inl ⟨by rfl, ?_⟩) ?_ ?_
                       rotate_left
                       ·intro w'
                        go_simp
                        with_reducible rfl
                       rotate_left
                       ·simp only [Act.put, List.setIfInBounds_toArray, List.set_cons_zero, List.set_cons_succ, i64_w, i32_w]
                        rfl
                       refine pure_ (i := 9) (N := some 65) (v := ?_) (a' := ?_) #[true, true, false, true, true, false, true, true, false, true, false, false, false, false, false, false, false, false, false, false, false, false, false, false, false, false, false, false, false, false, false, false, false] rfl rfl (any_of HT_.out (by kernel_rfl)) (fun _ _ _ h => h) (Or.inl ⟨by rfl, ?_⟩) ?_ ?_
                       rotate_left
                       ·intro w'
                        go_simp
                        with_reducible rfl
                       rotate_left
                       ·simp only [Act.put, List.setIfInBounds_toArray, List.set_cons_zero, List.set_cons_succ, i64_w, i32_w]
                        rfl
                       refine pure_ (i := 10) (N := some 66) (v := ?_) (a' := ?_) #[true, true, false, true, true, false, true, true, false, true, true, false, false, false, false, false, false, false, false, false, false, false, false, false, false, false, false, false, false, false, false, false, false] rfl rfl (any_of HT_.out (by kernel_rfl)) (fun _ _ _ h => h) (Or.inl ⟨by rfl, ?_⟩) ?_ ?_
                       rotate_left
                       ·intro w'
                        go_simp
                        with_reducible rfl
                       rotate_left
                       ·simp only [Act.put, List.setIfInBounds_toArray, List.set_cons_zero, List.set_cons_succ, i64_w, i32_w]
                        rfl
                       refine pure_ (i := 12) (N := some 68) (v := ?_) (a' := ?_) #[true, true, false, true, true, false, true, true, false, true, true, false, true, false, false, false, false, false, false, false, false, false, false, false, false, false, false, false, false, false, false, false, false] rfl rfl (any_of HT_.out (by kernel_rfl)) (fun _ _ _ h => h) (Or.inl ⟨by rfl, ?_⟩) ?_ ?_
                       rotate_left
                       ·intro w'
                        go_simp
                        with_reducible rfl
                       rotate_left
                       ·simp only [Act.put, List.setIfInBounds_toArray, List.set_cons_zero, List.set_cons_succ, i64_w, i32_w]
                        rfl
                       refine pure_ (i := 13) (N := some 69) (v := ?_) (a' := ?_) #[true, true, false, true, true, false, true, true, false, true, true, false, true, true, false, false, false, false, false, false, false, false, false, false, false, false, false, false, false, false, false, false, false] rfl rfl (any_of HT_.out (by kernel_rfl)) (fun _ _ _ h => h) (Or.inl ⟨by rfl, ?_⟩) ?_ ?_
                       rotate_left
                       ·intro w'
                        go_simp
                        with_reducible rfl
                       rotate_left
                       ·simp only [Act.put, List.setIfInBounds_toArray, List.set_cons_zero, List.set_cons_succ, i64_w, i32_w]
                        rfl
                       refine pure_ (i := 15) (N := some 71) (v := ?_) (a' := ?_) #[true, true, false, true, true, false, true, true, false, true, true, false, true, true, false, true, false, false, false, false, false, false, false, false, false, false, false, false, false, false, false, false, false] rfl rfl (any_of HT_.out (by kernel_rfl)) (fun _ _ _ h => h) (Or.inl ⟨by rfl, ?_⟩) ?_ ?_
                       rotate_left
                       ·intro w'
                        go_simp
                        with_reducible rfl
                       rotate_left
                       ·simp only [Act.put, List.setIfInBounds_toArray, List.set_cons_zero, List.set_cons_succ, i64_w, i32_w]
                        rfl
                       refine pure_ (i := 16) (N := some 72) (v := ?_) (a' := ?_) #[true, true, false, true, true, false, true, true, false, true, true, false, true, true, false, true, true, false, false, false, false, false, false, false, false, false, false, false, false, false, false, false, false] rfl rfl (any_of HT_.out (by kernel_rfl)) (fun _ _ _ h => h) (Or.inl ⟨by rfl, ?_⟩) ?_ ?_
                       rotate_left
                       ·intro w'
                        go_simp
                        with_reducible rfl
                       rotate_left
                       ·simp only [Act.put, List.setIfInBounds_toArray, List.set_cons_zero, List.set_cons_succ, i64_w, i32_w]
                        rfl
                       refine pure_ (i := 18) (N := some 74) (v := ?_) (a' := ?_) #[true, true, false, true, true, false, true, true, false, true, true, false, true, true, false, true, true, false, true, false, false, false, false, false, false, false, false, false, false, false, false, false, false] rfl rfl (any_of HT_.out (by kernel_rfl)) (fun _ _ _ h => h) (Or.inl ⟨by rfl, ?_⟩) ?_ ?_
                       rotate_left
                       ·intro w'
                        go_simp
                        with_reducible rfl
                       rotate_left
                       ·simp only [Act.put, List.setIfInBounds_toArray, List.set_cons_zero, List.set_cons_succ, i64_w, i32_w]
                        rfl
                       refine pure_ (i := 19) (N := some 75) (v := ?_) (a' := ?_) #[true, true, false, true, true, false, true, true, false, true, true, false, true, true, false, true, true, false, true, true, false, false, false, false, false, false, false, false, false, false, false, false, false] rfl rfl (any_of HT_.out (by kernel_rfl)) (fun _ _ _ h => h) (Or.inl ⟨by rfl, ?_⟩) ?_ ?_
                       rotate_left
                       ·intro w'
                        go_simp
                        with_reducible rfl
                       rotate_left
                       ·simp only [Act.put, List.setIfInBounds_toArray, List.set_cons_zero, List.set_cons_succ, i64_w, i32_w]
                        rfl
                       refine pure_ (i := 21) (N := some 77) (v := ?_) (a' := ?_) #[true, true, false, true, true, false, true, true, false, true, true, false, true, true, false, true, true, false, true, true, false, true, false, false, false, false, false, false, false, false, false, false, false] rfl rfl (any_of HT_.out (by kernel_rfl)) (fun _ _ _ h => h) (Or.inl ⟨by rfl, ?_⟩) ?_ ?_
                       rotate_left
                       ·intro w'
                        go_simp
                        with_reducible rfl
                       rotate_left
                       ·simp only [Act.put, List.setIfInBounds_toArray, List.set_cons_zero, List.set_cons_succ, i64_w, i32_w]
                        rfl
                       refine pure_ (i := 22) (N := some 78) (v := ?_) (a' := ?_) #[true, true, false, true, true, false, true, true, false, true, true, false, true, true, false, true, true, false, true, true, false, true, true, false, false, false, false, false, false, false, false, false, false] rfl rfl (any_of HT_.out (by kernel_rfl)) (fun _ _ _ h => h) (Or.inl ⟨by rfl, ?_⟩) ?_ ?_
                       rotate_left
                       ·intro w'
                        go_simp
                        with_reducible rfl
                       rotate_left
                       ·simp only [Act.put, List.setIfInBounds_toArray, List.set_cons_zero, List.set_cons_succ, i64_w, i32_w]
                        rfl
                       refine pure_ (i := 24) (N := some 80) (v := ?_) (a' := ?_) #[true, true, false, true, true, false, true, true, false, true, true, false, true, true, false, true, true, false, true, true, false, true, true, false, true, false, false, false, false, false, false, false, false] rfl rfl (any_of HT_.out (by kernel_rfl)) (fun _ _ _ h => h) (Or.inl ⟨by rfl, ?_⟩) ?_ ?_
                       rotate_left
                       ·intro w'
                        go_simp
                        with_reducible rfl
                       rotate_left
                       ·simp only [Act.put, List.setIfInBounds_toArray, List.set_cons_zero, List.set_cons_succ, i64_w, i32_w]
                        rfl
                       refine pure_ (i := 25) (N := some 81) (v := ?_) (a' := ?_) #[true, true, false, true, true, false, true, true, false, true, true, false, true, true, false, true, true, false, true, true, false, true, true, false, true, true, false, false, false, false, false, false, false] rfl rfl (any_of HT_.out (by kernel_rfl)) (fun _ _ _ h => h) (Or.inl ⟨by rfl, ?_⟩) ?_ ?_
                       rotate_left
                       ·intro w'
                        go_simp
                        with_reducible rfl
                       rotate_left
                       ·simp only [Act.put, List.setIfInBounds_toArray, List.set_cons_zero, List.set_cons_succ, i64_w, i32_w]
                        rfl
                       refine pure_ (i := 27) (N := some 83) (v := ?_) (a' := ?_) #[true, true, false, true, true, false, true, true, false, true, true, false, true, true, false, true, true, false, true, true, false, true, true, false, true, true, false, true, false, false, false, false, false] rfl rfl (any_of HT_.out (by kernel_rfl)) (fun _ _ _ h => h) (Or.inl ⟨by rfl, ?_⟩) ?_ ?_
                       rotate_left
                       ·intro w'
                        go_simp
                        with_reducible rfl
                       rotate_left
                       ·simp only [Act.put, List.setIfInBounds_toArray, List.set_cons_zero, List.set_cons_succ, i64_w, i32_w]
                        rfl
                       refine pure_ (i := 28) (N := some 84) (v := ?_) (a' := ?_) #[true, true, false, true, true, false, true, true, false, true, true, false, true, true, false, true, true, false, true, true, false, true, true, false, true, true, false, true, true, false, false, false, false] rfl rfl (any_of HT_.out (by kernel_rfl)) (fun _ _ _ h => h) (Or.inl ⟨by rfl, ?_⟩) ?_ ?_
                       rotate_left
                       ·intro w'
                        go_simp
                        with_reducible rfl
                       rotate_left
                       ·simp only [Act.put, List.setIfInBounds_toArray, List.set_cons_zero, List.set_cons_succ, i64_w, i32_w]
                        rfl
                       refine take_ (i := 2) (N := some 58) (v := ?_) (a' := ?_) #[true, true, true, true, true, false, true, true, false, true, true, false, true, true, false, true, true, false, true, true, false, true, true, false, true, true, false, true, true, false, false, false, false] rfl rfl (take_ofW HT_.out HW_.out (by kernel_rfl)) (fun _ _ _ h => h) (Or.inl ⟨by rfl, ?_⟩) hHeld ?_ ?_
                       rotate_left
                       ·rintro w' ⟨s0, s1, s2, s3, s4, s5, s6, s7, s8, s9⟩
                        go_simp
                        with_reducible rfl
                       rotate_left
                       ·simp only [Act.put, List.setIfInBounds_toArray, List.set_cons_zero, List.set_cons_succ, i64_w, i32_w]
                        rfl
                       refine take_ (i := 5) (N := some 61) (v := ?_) (a' := ?_) #[true, true, true, true, true, true, true, true, false, true, true, false, true, true, false, true, true, false, true, true, false, true, true, false, true, true, false, true, true, false, false, false, false] rfl rfl (take_ofW HT_.out HW_.out (by kernel_rfl)) (fun _ _ _ h => h) (Or.inl ⟨by rfl, ?_⟩) hHeld ?_ ?_
                       rotate_left
                       ·rintro w' ⟨s0, s1, s2, s3, s4, s5, s6, s7, s8, s9⟩
                        go_simp
                        with_reducible rfl
                       rotate_left
                       ·simp only [Act.put, List.setIfInBounds_toArray, List.set_cons_zero, List.set_cons_succ, i64_w, i32_w]
                        rfl
                       refine take_ (i := 8) (N := some 64) (v := ?_) (a' := ?_) #[true, true, true, true, true, true, true, true, true, true, true, false, true, true, false, true, true, false, true, true, false, true, true, false, true, true, false, true, true, false, false, false, false] rfl rfl (take_ofW HT_.out HW_.out (by kernel_rfl)) (fun _ _ _ h => h) (Or.inl ⟨by rfl, ?_⟩) hHeld ?_ ?_
                       rotate_left
                       ·rintro w' ⟨s0, s1, s2, s3, s4, s5, s6, s7, s8, s9⟩
                        go_simp
                        with_reducible rfl
                       rotate_left
                       ·simp only [Act.put, List.setIfInBounds_toArray, List.set_cons_zero, List.set_cons_succ, i64_w, i32_w]
                        rfl
                       refine take_ (i := 11) (N := some 67) (v := ?_) (a' := ?_) #[true, true, true, true, true, true, true, true, true, true, true, true, true, true, false, true, true, false, true, true, false, true, true, false, true, true, false, true, true, false, false, false, false] rfl rfl (take_ofW HT_.out HW_.out (by kernel_rfl)) (fun _ _ _ h => h) (Or.inl ⟨by rfl, ?_⟩) hHeld ?_ ?_
                       rotate_left
                       ·rintro w' ⟨s0, s1, s2, s3, s4, s5, s6, s7, s8, s9⟩
                        go_simp
                        with_reducible rfl
                       rotate_left
                       ·simp only [Act.put, List.setIfInBounds_toArray, List.set_cons_zero, List.set_cons_succ, i64_w, i32_w]
                        rfl
                       refine take_ (i := 14) (N := some 70) (v := ?_) (a' := ?_) #[true, true, true, true, true, true, true, true, true, true, true, true, true, true, true, true, true, false, true, true, false, true, true, false, true, true, false, true, true, false, false, false, false] rfl rfl (take_ofW HT_.out HW_.out (by kernel_rfl)) (fun _ _ _ h => h) (Or.inl ⟨by rfl, ?_⟩) hHeld ?_ ?_
                       rotate_left
                       ·rintro w' ⟨s0, s1, s2, s3, s4, s5, s6, s7, s8, s9⟩
                        go_simp
                        with_reducible rfl
                       rotate_left
                       ·simp only [Act.put, List.setIfInBounds_toArray, List.set_cons_zero, List.set_cons_succ, i64_w, i32_w]
                        rfl
                       refine take_ (i := 17) (N := some 73) (v := ?_) (a' := ?_) #[true, true, true, true, true, true, true, true, true, true, true, true, true, true, true, true, true, true, true, true, false, true, true, false, true, true, false, true, true, false, false, false, false] rfl rfl (take_ofW HT_.out HW_.out (by kernel_rfl)) (fun _ _ _ h => h) (Or.inl ⟨by rfl, ?_⟩) hHeld ?_ ?_
                       rotate_left
                       ·rintro w' ⟨s0, s1, s2, s3, s4, s5, s6, s7, s8, s9⟩
                        go_simp
                        with_reducible rfl
                       rotate_left
                       ·simp only [Act.put, List.setIfInBounds_toArray, List.set_cons_zero, List.set_cons_succ, i64_w, i32_w]
                        rfl
                       refine take_ (i := 20) (N := some 76) (v := ?_) (a' := ?_) #[true, true, true, true, true, true, true, true, true, true, true, true, true, true, true, true, true, true, true, true, true, true, true, false, true, true, false, true, true, false, false, false, false] rfl rfl (take_ofW HT_.out HW_.out (by kernel_rfl)) (fun _ _ _ h => h) (Or.inl ⟨by rfl, ?_⟩) hHeld ?_ ?_
                       rotate_left
                       ·rintro w' ⟨s0, s1, s2, s3, s4, s5, s6, s7, s8, s9⟩
                        go_simp
                        with_reducible rfl
                       rotate_left
                       ·simp only [Act.put, List.setIfInBounds_toArray, List.set_cons_zero, List.set_cons_succ, i64_w, i32_w]
                        rfl
                       refine take_ (i := 23) (N := some 79) (v := ?_) (a' := ?_) #[true, true, true, true, true, true, true, true, true, true, true, true, true, true, true, true, true, true, true, true, true, true, true, true, true, true, false, true, true, false, false, false, false] rfl rfl (take_ofW HT_.out HW_.out (by kernel_rfl)) (fun _ _ _ h => h) (Or.inl ⟨by rfl, ?_⟩) hHeld ?_ ?_
                       rotate_left
                       ·rintro w' ⟨s0, s1, s2, s3, s4, s5, s6, s7, s8, s9⟩
                        go_simp
                        with_reducible rfl
                       rotate_left
                       ·simp only [Act.put, List.setIfInBounds_toArray, List.set_cons_zero, List.set_cons_succ, i64_w, i32_w]
                        rfl
                       refine take_ (i := 26) (N := some 82) (v := ?_) (a' := ?_) #[true, true, true, true, true, true, true, true, true, true, true, true, true, true, true, true, true, true, true, true, true, true, true, true, true, true, true, true, true, false, false, false, false] rfl rfl (take_ofW HT_.out HW_.out (by kernel_rfl)) (fun _ _ _ h => h) (Or.inl ⟨by rfl, ?_⟩) hHeld ?_ ?_
                       rotate_left
                       ·rintro w' ⟨s0, s1, s2, s3, s4, s5, s6, s7, s8, s9⟩
                        go_simp
                        with_reducible rfl
                       rotate_left
                       ·simp only [Act.put, List.setIfInBounds_toArray, List.set_cons_zero, List.set_cons_succ, i64_w, i32_w]
                        rfl
                       refine take_ (i := 29) (N := some 85) (v := ?_) (a' := ?_) #[true, true, true, true, true, true, true, true, true, true, true, true, true, true, true, true, true, true, true, true, true, true, true, true, true, true, true, true, true, true, false, false, false] rfl rfl (take_ofW HT_.out HW_.out (by kernel_rfl)) (fun _ _ _ h => h) (Or.inl ⟨by rfl, ?_⟩) hHeld ?_ ?_
                       rotate_left
                       ·rintro w' ⟨s0, s1, s2, s3, s4, s5, s6, s7, s8, s9⟩
                        go_simp
                        with_reducible rfl
                       rotate_left
                       ·simp only [Act.put, List.setIfInBounds_toArray, List.set_cons_zero, List.set_cons_succ, i64_w, i32_w]
                        rfl
                       refine pure_ (i := 30) (N := some 86) (v := ?_) (a' := ?_) #[true, true, true, true, true, true, true, true, true, true, true, true, true, true, true, true, true, true, true, true, true, true, true, true, true, true, true, true, true, true, true, false, false] rfl rfl (any_of HT_.out (by kernel_rfl)) (fun _ _ _ h => h) (Or.inl ⟨by rfl, ?_⟩) ?_ ?_
                       rotate_left
                       ·intro w'
                        go_simp
                        with_reducible rfl
                       rotate_left
                       ·simp only [Act.put, List.setIfInBounds_toArray, List.set_cons_zero, List.set_cons_succ, i64_w, i32_w]
                        rfl
                       refine one_ (i := 31) (N := some 7) #[true, true, true, true, true, true, true, true, true, true, true, true, true, true, true, true, true, true, true, true, true, true, true, true, true, true, true, true, true, true, true, true, false] rfl rfl (one_of HT_.out (by kernel_rfl)) (by decide) (fun K hK => ?_)
                       refine box_step ?hg (N := 7) ?hd (cs := #[.int .i64 0, .int .i64 0, .int .i64 0, .int .i64 0, .int .i64 0, .int .i64 0, .int .i64 0, .int .i64 0, .int .i64 0, .int .i64 0, .slice none 0 0]) (t := 32) ?hr ?_; (case hd => rfl); (case hg => rfl); (case hr => first | (go_simp; done) | (go_simp; rfl))
                       intro gb152 hg w41 hbox hb
                       have HS0_ := (hb.cell (World.block_lt_of_cell? _ _ (hHeld.1))).trans (hHeld.1)
                       have HS1_ := (hb.cell (World.block_lt_of_cell? _ _ (hHeld.2.1))).trans (hHeld.2.1)
                       have HS2_ := (hb.cell (World.block_lt_of_cell? _ _ (hHeld.2.2.1))).trans (hHeld.2.2.1)
                       have HS3_ := (hb.cell (World.block_lt_of_cell? _ _ (hHeld.2.2.2.1))).trans (hHeld.2.2.2.1)
                       have HS4_ := (hb.cell (World.block_lt_of_cell? _ _ (hHeld.2.2.2.2.1))).trans (hHeld.2.2.2.2.1)
                       have HS5_ := (hb.cell (World.block_lt_of_cell? _ _ (hHeld.2.2.2.2.2.1))).trans (hHeld.2.2.2.2.2.1)
                       have HS6_ := (hb.cell (World.block_lt_of_cell? _ _ (hHeld.2.2.2.2.2.2.1))).trans (hHeld.2.2.2.2.2.2.1)
                       have HS7_ := (hb.cell (World.block_lt_of_cell? _ _ (hHeld.2.2.2.2.2.2.2.1))).trans (hHeld.2.2.2.2.2.2.2.1)
                       have HS8_ := (hb.cell (World.block_lt_of_cell? _ _ (hHeld.2.2.2.2.2.2.2.2.1))).trans (hHeld.2.2.2.2.2.2.2.2.1)
                       have HS9_ := (hb.cell (World.block_lt_of_cell? _ _ (hHeld.2.2.2.2.2.2.2.2.2))).trans (hHeld.2.2.2.2.2.2.2.2.2)
                       have n0_ := Aside0.mk (Kd.R_below (by (with_reducible repeat (first | apply Kd.R_alloc | apply Kd.R_drewN | apply Kd.R_drew)); exact HO_5.out) hb)
                       have n1_ := Aside0.mk (blk_below (g := gb133) (o := .cells #[.int .i64 0, .int .i64 0, .int .i64 0, .int .i64 0, .int .i64 0, .int .i64 0, .int .i64 0, .int .i64 0, .int .i64 0, .int .i64 0, .slice none 0 0] 32 (0, 0)) (by (with_reducible repeat (first | refine blk_drewN ?_ _ | refine blk_drew ?_ | refine blk_alloc ?_ _)); exact BK133.out) hb)
                       have n2_ := Aside0.mk (below_step (by repeat (first | (with_reducible first | exact HB.out | apply below_alloc | apply pw_below_drewN | apply below_drew1 | refine below_set ?_ GE133.out) | exact HB.out)) hb)
                       have n3_ := Aside0.mk (hbox)
                       have n4_ := Aside0.mk ((by rw [hg]; exact (below_size (by repeat (first | (with_reducible first | exact HB.out | apply below_alloc | apply pw_below_drewN | apply below_drew1 | refine below_set ?_ GE133.out) | exact HB.out))) : w.heap.size ≤ gb152))
                       have n5_ := Aside0.mk ((by rw [hg]; exact (below_size (by repeat (first | (with_reducible first | exact HB.out | apply below_alloc | apply pw_below_drewN | apply below_drew1 | refine below_set ?_ GE133.out) | exact HB.out))) : w.heap.size ≤ gb152))
                       have n6_ := Aside0.mk ((by rw [hg]; exact Nat.ne_of_lt (blk_lt (g := gb133) (o := .cells #[.int .i64 0, .int .i64 0, .int .i64 0, .int .i64 0, .int .i64 0, .int .i64 0, .int .i64 0, .int .i64 0, .int .i64 0, .int .i64 0, .slice none 0 0] 32 (0, 0)) (by (with_reducible repeat (first | refine blk_drewN ?_ _ | refine blk_drew ?_ | refine blk_alloc ?_ _)); exact BK133.out)) : gb133 ≠ gb152))
                       have n7_ := Aside0.mk ((by rw [hg]; exact Nat.ne_of_gt (blk_lt (g := gb133) (o := .cells #[.int .i64 0, .int .i64 0, .int .i64 0, .int .i64 0, .int .i64 0, .int .i64 0, .int .i64 0, .int .i64 0, .int .i64 0, .int .i64 0, .slice none 0 0] 32 (0, 0)) (by (with_reducible repeat (first | refine blk_drewN ?_ _ | refine blk_drew ?_ | refine blk_alloc ?_ _)); exact BK133.out)) : gb152 ≠ gb133))
                       clear HO_5
                       clear BK133
                       clear HB
                       have HO_5 := n0_
                       have BK133 := n1_
                       have HB := n2_
                       have BK152 := n3_
                       have GW152 := n4_
                       have GE152 := n5_
                       have NB133_152 := n6_
                       have NB152_133 := n7_
                       clear n0_ n1_ n2_ n3_ n4_ n5_ n6_ n7_
                       clear hb hbox hg
                       refine hK.out _ _ ⟨HS0_, HS1_, HS2_, HS3_, HS4_, HS5_, HS6_, HS7_, HS8_, HS9_⟩ (fun hHeld => ?_)
                       clear hK K
                       refine norm_ (a' := ?_) ?_ ?_
                       rotate_left
                       ·show Act.put _ (some 7) _ = _
                        simp only [Act.put, List.setIfInBounds_toArray, List.set_cons_zero, List.set_cons_succ, i64_w, i32_w]
                        rfl
                       refine one_ (i := 32) (N := none) #[true, true, true, true, true, true, true, true, true, true, true, true, true, true, true, true, true, true, true, true, true, true, true, true, true, true, true, true, true, true, true, true, true] rfl rfl (one_of HT_.out (by kernel_rfl)) (by decide) (fun K hK => ?_)
                       have hs42 : w41.cell? ⟨gb152, 0, none⟩ = some (.int .i64 0) := (blk_cell BK152.out 0).trans rfl
                       have hfs42 := blk_frozen BK152.out 0
                       have hns42_0 := NB133_152.out
                       have hms42_0 := NB152_133.out
                       have hs43 : w41.cell? ⟨gb152, 1, none⟩ = some (.int .i64 0) := (blk_cell BK152.out 1).trans rfl
                       have hfs43 := blk_frozen BK152.out 1
                       have hns43_0 := NB133_152.out
                       have hms43_0 := NB152_133.out
                       have hs44 : w41.cell? ⟨gb152, 2, none⟩ = some (.int .i64 0) := (blk_cell BK152.out 2).trans rfl
                       have hfs44 := blk_frozen BK152.out 2
                       have hns44_0 := NB133_152.out
                       have hms44_0 := NB152_133.out
                       have hs45 : w41.cell? ⟨gb152, 3, none⟩ = some (.int .i64 0) := (blk_cell BK152.out 3).trans rfl
                       have hfs45 := blk_frozen BK152.out 3
                       have hns45_0 := NB133_152.out
                       have hms45_0 := NB152_133.out
                       have hs46 : w41.cell? ⟨gb152, 4, none⟩ = some (.int .i64 0) := (blk_cell BK152.out 4).trans rfl
                       have hfs46 := blk_frozen BK152.out 4
                       have hns46_0 := NB133_152.out
                       have hms46_0 := NB152_133.out
                       have hs47 : w41.cell? ⟨gb152, 5, none⟩ = some (.int .i64 0) := (blk_cell BK152.out 5).trans rfl
                       have hfs47 := blk_frozen BK152.out 5
                       have hns47_0 := NB133_152.out
                       have hms47_0 := NB152_133.out
                       have hs48 : w41.cell? ⟨gb152, 6, none⟩ = some (.int .i64 0) := (blk_cell BK152.out 6).trans rfl
                       have hfs48 := blk_frozen BK152.out 6
                       have hns48_0 := NB133_152.out
                       have hms48_0 := NB152_133.out
                       have hs49 : w41.cell? ⟨gb152, 7, none⟩ = some (.int .i64 0) := (blk_cell BK152.out 7).trans rfl
                       have hfs49 := blk_frozen BK152.out 7
                       have hns49_0 := NB133_152.out
                       have hms49_0 := NB152_133.out
                       have hs50 : w41.cell? ⟨gb152, 8, none⟩ = some (.int .i64 0) := (blk_cell BK152.out 8).trans rfl
                       have hfs50 := blk_frozen BK152.out 8
                       have hns50_0 := NB133_152.out
                       have hms50_0 := NB152_133.out
                       have hs51 : w41.cell? ⟨gb152, 9, none⟩ = some (.int .i64 0) := (blk_cell BK152.out 9).trans rfl
                       have hfs51 := blk_frozen BK152.out 9
                       have hns51_0 := NB133_152.out
                       have hms51_0 := NB152_133.out
                       have hs52 : w41.cell? ⟨gb152, 10, none⟩ = some (.slice none 0 0) := (blk_cell BK152.out 10).trans rfl
                       have hfs52 := blk_frozen BK152.out 10
                       have hns52_0 := NB133_152.out
                       have hms52_0 := NB152_133.out
                       refine skip_ (w1 := ?_) (by rfl) rfl ?_ ?_
                       rotate_left
                       ·go_simp
                        rfl
                       have hne_ : ad142.block ≠ gb152 := Kd.own_blk (Kd.R_ne HO_5.out BK152.out (by decide))
                       refine hK.out _ _ ⟨far11 hne_ (hHeld.1), far11 hne_ (hHeld.2.1), far11 hne_ (hHeld.2.2.1), far11 hne_ (hHeld.2.2.2.1), far11 hne_ (hHeld.2.2.2.2.1), far11 hne_ (hHeld.2.2.2.2.2.1), far11 hne_ (hHeld.2.2.2.2.2.2.1), far11 hne_ (hHeld.2.2.2.2.2.2.2.1), far11 hne_ (hHeld.2.2.2.2.2.2.2.2.1), far11 hne_ (hHeld.2.2.2.2.2.2.2.2.2)⟩ (fun hHeld => ?_)
                       clear hne_
                       clear hK K
                       refine done_ (done_of HT_.out (by kernel_rfl)) ?_
                       have n0_ : Aside0 (Kd.R (Kd.int .i64) 3 (((((((((((w41.setCell ⟨gb152, 0, none⟩ (.int .i64 (rd x5_2 1))).setCell ⟨gb152, 1, none⟩ (.int .i64 (rd x5_2 2))).setCell ⟨gb152, 2, none⟩ (.int .i64 (rd x5_2 3))).setCell ⟨gb152, 3, none⟩ (.int .i64 (rd x5_2 4))).setCell ⟨gb152, 4, none⟩ (.int .i64 (rd x5_2 5))).setCell ⟨gb152, 5, none⟩ (.int .i64 (rd x5_2 6))).setCell ⟨gb152, 6, none⟩ (.int .i64 (rd x5_2 7))).setCell ⟨gb152, 7, none⟩ (.int .i64 (rd x5_2 8))).setCell ⟨gb152, 8, none⟩ (.int .i64 (rd x5_2 9))).setCell ⟨gb152, 9, none⟩ (.int .i64 (rd x5_2 10))).setCell ⟨gb152, 10, none⟩ (.slice none 0 0)) w.heap.size (fun _ => True) (.slice (some ad142) x5_2.length co21) x5_2) := ⟨by (with_reducible repeat (first | apply Kd.R_alloc | apply Kd.R_drewN | apply Kd.R_drew)); exact Kd.R_mono (Kd.R_far (p := ⟨gb152, 10, none⟩) (Kd.R_far (p := ⟨gb152, 9, none⟩) (Kd.R_far (p := ⟨gb152, 8, none⟩) (Kd.R_far (p := ⟨gb152, 7, none⟩) (Kd.R_far (p := ⟨gb152, 6, none⟩) (Kd.R_far (p := ⟨gb152, 5, none⟩) (Kd.R_far (p := ⟨gb152, 4, none⟩) (Kd.R_far (p := ⟨gb152, 3, none⟩) (Kd.R_far (p := ⟨gb152, 2, none⟩) (Kd.R_far (p := ⟨gb152, 1, none⟩) (Kd.R_far (p := ⟨gb152, 0, none⟩) (Kd.R_types HO_5.out BK152.out (by decide)) (fun _ hk => hk.2) (.int .i64 (rd x5_2 1))) (fun _ hk => hk.2) (.int .i64 (rd x5_2 2))) (fun _ hk => hk.2) (.int .i64 (rd x5_2 3))) (fun _ hk => hk.2) (.int .i64 (rd x5_2 4))) (fun _ hk => hk.2) (.int .i64 (rd x5_2 5))) (fun _ hk => hk.2) (.int .i64 (rd x5_2 6))) (fun _ hk => hk.2) (.int .i64 (rd x5_2 7))) (fun _ hk => hk.2) (.int .i64 (rd x5_2 8))) (fun _ hk => hk.2) (.int .i64 (rd x5_2 9))) (fun _ hk => hk.2) (.int .i64 (rd x5_2 10))) (fun _ hk => hk.2) (.slice none 0 0)) (fun _ hk => trivial)⟩
                       have n1_ : Aside0 ((((((((((((w41.setCell ⟨gb152, 0, none⟩ (.int .i64 (rd x5_2 1))).setCell ⟨gb152, 1, none⟩ (.int .i64 (rd x5_2 2))).setCell ⟨gb152, 2, none⟩ (.int .i64 (rd x5_2 3))).setCell ⟨gb152, 3, none⟩ (.int .i64 (rd x5_2 4))).setCell ⟨gb152, 4, none⟩ (.int .i64 (rd x5_2 5))).setCell ⟨gb152, 5, none⟩ (.int .i64 (rd x5_2 6))).setCell ⟨gb152, 6, none⟩ (.int .i64 (rd x5_2 7))).setCell ⟨gb152, 7, none⟩ (.int .i64 (rd x5_2 8))).setCell ⟨gb152, 8, none⟩ (.int .i64 (rd x5_2 9))).setCell ⟨gb152, 9, none⟩ (.int .i64 (rd x5_2 10))).setCell ⟨gb152, 10, none⟩ (.slice none 0 0)).heap[gb133]? = some (.cells #[.int .i64 0, .int .i64 0, .int .i64 0, .int .i64 0, .int .i64 0, .int .i64 0, .int .i64 0, .int .i64 0, .int .i64 0, .int .i64 0, .slice none 0 0] 32 (0, 0))) := ⟨by (with_reducible repeat (first | refine blk_drewN ?_ _ | refine blk_drew ?_ | refine blk_alloc ?_ _)); refine blk_far ?_ NB133_152.out _; (with_reducible repeat (first | refine blk_drewN ?_ _ | refine blk_drew ?_ | refine blk_alloc ?_ _)); refine blk_far ?_ NB133_152.out _; (with_reducible repeat (first | refine blk_drewN ?_ _ | refine blk_drew ?_ | refine blk_alloc ?_ _)); refine blk_far ?_ NB133_152.out _; (with_reducible repeat (first | refine blk_drewN ?_ _ | refine blk_drew ?_ | refine blk_alloc ?_ _)); refine blk_far ?_ NB133_152.out _; (with_reducible repeat (first | refine blk_drewN ?_ _ | refine blk_drew ?_ | refine blk_alloc ?_ _)); refine blk_far ?_ NB133_152.out _; (with_reducible repeat (first | refine blk_drewN ?_ _ | refine blk_drew ?_ | refine blk_alloc ?_ _)); refine blk_far ?_ NB133_152.out _; (with_reducible repeat (first | refine blk_drewN ?_ _ | refine blk_drew ?_ | refine blk_alloc ?_ _)); refine blk_far ?_ NB133_152.out _; (with_reducible repeat (first | refine blk_drewN ?_ _ | refine blk_drew ?_ | refine blk_alloc ?_ _)); refine blk_far ?_ NB133_152.out _; (with_reducible repeat (first | refine blk_drewN ?_ _ | refine blk_drew ?_ | refine blk_alloc ?_ _)); refine blk_far ?_ NB133_152.out _; (with_reducible repeat (first | refine blk_drewN ?_ _ | refine blk_drew ?_ | refine blk_alloc ?_ _)); refine blk_far ?_ NB133_152.out _; (with_reducible repeat (first | refine blk_drewN ?_ _ | refine blk_drew ?_ | refine blk_alloc ?_ _)); refine blk_far ?_ NB133_152.out _; (with_reducible repeat (first | refine blk_drewN ?_ _ | refine blk_drew ?_ | refine blk_alloc ?_ _)); exact BK133.out⟩
                       have n2_ : Aside0 ((((((((((((w41.setCell ⟨gb152, 0, none⟩ (.int .i64 (rd x5_2 1))).setCell ⟨gb152, 1, none⟩ (.int .i64 (rd x5_2 2))).setCell ⟨gb152, 2, none⟩ (.int .i64 (rd x5_2 3))).setCell ⟨gb152, 3, none⟩ (.int .i64 (rd x5_2 4))).setCell ⟨gb152, 4, none⟩ (.int .i64 (rd x5_2 5))).setCell ⟨gb152, 5, none⟩ (.int .i64 (rd x5_2 6))).setCell ⟨gb152, 6, none⟩ (.int .i64 (rd x5_2 7))).setCell ⟨gb152, 7, none⟩ (.int .i64 (rd x5_2 8))).setCell ⟨gb152, 8, none⟩ (.int .i64 (rd x5_2 9))).setCell ⟨gb152, 9, none⟩ (.int .i64 (rd x5_2 10))).setCell ⟨gb152, 10, none⟩ (.slice none 0 0)).heap[gb152]? = some (.cells #[.int .i64 (rd x5_2 1), .int .i64 (rd x5_2 2), .int .i64 (rd x5_2 3), .int .i64 (rd x5_2 4), .int .i64 (rd x5_2 5), .int .i64 (rd x5_2 6), .int .i64 (rd x5_2 7), .int .i64 (rd x5_2 8), .int .i64 (rd x5_2 9), .int .i64 (rd x5_2 10), .slice none 0 0] 32 (0, 0))) := ⟨by (with_reducible repeat (first | refine blk_drewN ?_ _ | refine blk_drew ?_ | refine blk_alloc ?_ _)); refine blk_put (cs := #[.int .i64 (rd x5_2 1), .int .i64 (rd x5_2 2), .int .i64 (rd x5_2 3), .int .i64 (rd x5_2 4), .int .i64 (rd x5_2 5), .int .i64 (rd x5_2 6), .int .i64 (rd x5_2 7), .int .i64 (rd x5_2 8), .int .i64 (rd x5_2 9), .int .i64 (rd x5_2 10), .slice none 0 0]) ?_ 10 _ rfl; (with_reducible repeat (first | refine blk_drewN ?_ _ | refine blk_drew ?_ | refine blk_alloc ?_ _)); refine blk_put (cs := #[.int .i64 (rd x5_2 1), .int .i64 (rd x5_2 2), .int .i64 (rd x5_2 3), .int .i64 (rd x5_2 4), .int .i64 (rd x5_2 5), .int .i64 (rd x5_2 6), .int .i64 (rd x5_2 7), .int .i64 (rd x5_2 8), .int .i64 (rd x5_2 9), .int .i64 0, .slice none 0 0]) ?_ 9 _ rfl; (with_reducible repeat (first | refine blk_drewN ?_ _ | refine blk_drew ?_ | refine blk_alloc ?_ _)); refine blk_put (cs := #[.int .i64 (rd x5_2 1), .int .i64 (rd x5_2 2), .int .i64 (rd x5_2 3), .int .i64 (rd x5_2 4), .int .i64 (rd x5_2 5), .int .i64 (rd x5_2 6), .int .i64 (rd x5_2 7), .int .i64 (rd x5_2 8), .int .i64 0, .int .i64 0, .slice none 0 0]) ?_ 8 _ rfl; (with_reducible repeat (first | refine blk_drewN ?_ _ | refine blk_drew ?_ | refine blk_alloc ?_ _)); refine blk_put (cs := #[.int .i64 (rd x5_2 1), .int .i64 (rd x5_2 2), .int .i64 (rd x5_2 3), .int .i64 (rd x5_2 4), .int .i64 (rd x5_2 5), .int .i64 (rd x5_2 6), .int .i64 (rd x5_2 7), .int .i64 0, .int .i64 0, .int .i64 0, .slice none 0 0]) ?_ 7 _ rfl; (with_reducible repeat (first | refine blk_drewN ?_ _ | refine blk_drew ?_ | refine blk_alloc ?_ _)); refine blk_put (cs := #[.int .i64 (rd x5_2 1), .int .i64 (rd x5_2 2), .int .i64 (rd x5_2 3), .int .i64 (rd x5_2 4), .int .i64 (rd x5_2 5), .int .i64 (rd x5_2 6), .int .i64 0, .int .i64 0, .int .i64 0, .int .i64 0, .slice none 0 0]) ?_ 6 _ rfl; (with_reducible repeat (first | refine blk_drewN ?_ _ | refine blk_drew ?_ | refine blk_alloc ?_ _)); refine blk_put (cs := #[.int .i64 (rd x5_2 1), .int .i64 (rd x5_2 2), .int .i64 (rd x5_2 3), .int .i64 (rd x5_2 4), .int .i64 (rd x5_2 5), .int .i64 0, .int .i64 0, .int .i64 0, .int .i64 0, .int .i64 0, .slice none 0 0]) ?_ 5 _ rfl; (with_reducible repeat (first | refine blk_drewN ?_ _ | refine blk_drew ?_ | refine blk_alloc ?_ _)); refine blk_put (cs := #[.int .i64 (rd x5_2 1), .int .i64 (rd x5_2 2), .int .i64 (rd x5_2 3), .int .i64 (rd x5_2 4), .int .i64 0, .int .i64 0, .int .i64 0, .int .i64 0, .int .i64 0, .int .i64 0, .slice none 0 0]) ?_ 4 _ rfl; (with_reducible repeat (first | refine blk_drewN ?_ _ | refine blk_drew ?_ | refine blk_alloc ?_ _)); refine blk_put (cs := #[.int .i64 (rd x5_2 1), .int .i64 (rd x5_2 2), .int .i64 (rd x5_2 3), .int .i64 0, .int .i64 0, .int .i64 0, .int .i64 0, .int .i64 0, .int .i64 0, .int .i64 0, .slice none 0 0]) ?_ 3 _ rfl; (with_reducible repeat (first | refine blk_drewN ?_ _ | refine blk_drew ?_ | refine blk_alloc ?_ _)); refine blk_put (cs := #[.int .i64 (rd x5_2 1), .int .i64 (rd x5_2 2), .int .i64 0, .int .i64 0, .int .i64 0, .int .i64 0, .int .i64 0, .int .i64 0, .int .i64 0, .int .i64 0, .slice none 0 0]) ?_ 2 _ rfl; (with_reducible repeat (first | refine blk_drewN ?_ _ | refine blk_drew ?_ | refine blk_alloc ?_ _)); refine blk_put (cs := #[.int .i64 (rd x5_2 1), .int .i64 0, .int .i64 0, .int .i64 0, .int .i64 0, .int .i64 0, .int .i64 0, .int .i64 0, .int .i64 0, .int .i64 0, .slice none 0 0]) ?_ 1 _ rfl; (with_reducible repeat (first | refine blk_drewN ?_ _ | refine blk_drew ?_ | refine blk_alloc ?_ _)); refine blk_put (cs := #[.int .i64 0, .int .i64 0, .int .i64 0, .int .i64 0, .int .i64 0, .int .i64 0, .int .i64 0, .int .i64 0, .int .i64 0, .int .i64 0, .slice none 0 0]) ?_ 0 _ rfl; (with_reducible repeat (first | refine blk_drewN ?_ _ | refine blk_drew ?_ | refine blk_alloc ?_ _)); exact BK152.out⟩
                       have n3_ : Aside0 (Below w.heap.size w (((((((((((w41.setCell ⟨gb152, 0, none⟩ (.int .i64 (rd x5_2 1))).setCell ⟨gb152, 1, none⟩ (.int .i64 (rd x5_2 2))).setCell ⟨gb152, 2, none⟩ (.int .i64 (rd x5_2 3))).setCell ⟨gb152, 3, none⟩ (.int .i64 (rd x5_2 4))).setCell ⟨gb152, 4, none⟩ (.int .i64 (rd x5_2 5))).setCell ⟨gb152, 5, none⟩ (.int .i64 (rd x5_2 6))).setCell ⟨gb152, 6, none⟩ (.int .i64 (rd x5_2 7))).setCell ⟨gb152, 7, none⟩ (.int .i64 (rd x5_2 8))).setCell ⟨gb152, 8, none⟩ (.int .i64 (rd x5_2 9))).setCell ⟨gb152, 9, none⟩ (.int .i64 (rd x5_2 10))).setCell ⟨gb152, 10, none⟩ (.slice none 0 0))) := ⟨by repeat (first | (with_reducible first | exact HB.out | apply below_alloc | apply pw_below_drewN | apply below_drew1 | refine below_set ?_ GE133.out | refine below_set ?_ GE152.out) | exact HB.out)⟩
                       (try clear HO_5)
                       (try clear BK133)
                       (try clear BK152)
                       (try clear HB)
                       generalize (((((((((((w41.setCell ⟨gb152, 0, none⟩ (.int .i64 (rd x5_2 1))).setCell ⟨gb152, 1, none⟩ (.int .i64 (rd x5_2 2))).setCell ⟨gb152, 2, none⟩ (.int .i64 (rd x5_2 3))).setCell ⟨gb152, 3, none⟩ (.int .i64 (rd x5_2 4))).setCell ⟨gb152, 4, none⟩ (.int .i64 (rd x5_2 5))).setCell ⟨gb152, 5, none⟩ (.int .i64 (rd x5_2 6))).setCell ⟨gb152, 6, none⟩ (.int .i64 (rd x5_2 7))).setCell ⟨gb152, 7, none⟩ (.int .i64 (rd x5_2 8))).setCell ⟨gb152, 8, none⟩ (.int .i64 (rd x5_2 9))).setCell ⟨gb152, 9, none⟩ (.int .i64 (rd x5_2 10))).setCell ⟨gb152, 10, none⟩ (.slice none 0 0)) = w53 at n0_ n1_ n2_ n3_ ⊢
                       have HO_5 := n0_
                       have BK133 := n1_
                       have BK152 := n2_
                       have HB := n3_
                       clear n0_ n1_ n2_ n3_
                       have q54 : (12 : Int) ≤ ((x5_2.length : Int) : Int) := of_decide_eq_true (by first | (with_reducible assumption) | assumption)
                       obtain ⟨i054, hi054, _, hsz54, _⟩ := info_parts info3
                       have hroom54 : x5_2.length ≤ co21 := (Kd.R_reads' HO_5.out).2.1
                       have hC54 : Kd.C (Kd.int .i64) _ (some ad142) x5_2.length x5_2 := (Kd.R_reads' HO_5.out).2.2
                       have hcut54 := cut_from (P := Try.prog) 30 3 .i64 Try.underlying30 hi054 1 hsz54 (some ad142) x5_2.length co21 12 (by omega) q54
                       have hr54 := Kd.C_drop (m := (12 : Int).toNat) (c := co21) hC54 (by omega) hroom54
                       obtain ⟨A54, hA54⟩ : ∃ A1, A1 = (if co21 = (12 : Int).toNat then (some ad142) else ((some ad142) : Option Addr).map (·.add ((12 : Int).toNat * 1))) := ⟨_, rfl⟩
                       obtain ⟨c54, hc54⟩ : ∃ c1, c1 = co21 - (12 : Int).toNat := ⟨_, rfl⟩
                       have hy54 : y153.length = x5_2.length - (12 : Int).toNat := (by rw [Ny153.out, List.length_drop] <;> omega)
                       rw [show (x5_2).drop (12 : Int).toNat = y153 from Ny153.out.symm] at hr54
                       replace hr54 : Kd.C (Kd.int .i64) _ A54 y153.length y153 := (by rw [hA54]; exact hr54)
                       rw [← hy54, ← hA54, ← hc54] at hcut54
                       have HR156 := Aside0.mk hr54
                       have HC156 := Aside0.mk (show y153.length ≤ c54 from by rw [hy54, hc54]; exact Nat.sub_le_sub_right hroom54 _)
                       clear hr54 hC54 hroom54 hi054 hsz54 hc54
                       have KY54 := Aside0.mk hy54
                       have KA54 := Aside0.mk hA54
                       clear hy54 hA54
                       have KL54 := Aside0.mk (show 12 ≤ x5_2.length from by omega)
                       replace q54 := eq_true q54
                       try go_wp2
                       go_loopg [90] k2 (fun kq v90 w' => ∃ (x90_3 : Int) (x153010_3 : List Int) (u153010 : Value), v90 = .int .i64 x90_3 ∧ Aside0 (wire_Take.l1 kq x5_2 y153 (y153.length : Int) x90_3 (rd x5_2 1) (rd x5_2 2) (rd x5_2 3) (rd x5_2 4) (rd x5_2 5) (rd x5_2 6) (rd x5_2 7) (rd x5_2 8) (rd x5_2 9) (rd x5_2 10) x153010_3 = some (r1, r2, r3, r4, r5, r6, r7, r8, r9, r10, r11, r12)) ∧ Aside0 (kq ≤ k2) ∧ Aside0 (Kd.R (Kd.int .i64) 3 w' w.heap.size (fun k_ => some k_ ≠ (u153010 : Value).ownBlock) (.slice (some ad142) x5_2.length co21) x5_2) ∧ Aside0 (Kd.R (Kd.int .i64) 3 w' w.heap.size (fun k_ => some k_ ≠ ((.slice (some ad142) x5_2.length co21) : Value).ownBlock) u153010 x153010_3) ∧ Aside0 (w'.heap[gb133]? = some (.cells #[.int .i64 0, .int .i64 0, .int .i64 0, .int .i64 0, .int .i64 0, .int .i64 0, .int .i64 0, .int .i64 0, .int .i64 0, .int .i64 0, (.slice none 0 0)] 32 (0, 0))) ∧ Aside0 (w'.heap[gb152]? = some (.cells #[.int .i64 (rd x5_2 1), .int .i64 (rd x5_2 2), .int .i64 (rd x5_2 3), .int .i64 (rd x5_2 4), .int .i64 (rd x5_2 5), .int .i64 (rd x5_2 6), .int .i64 (rd x5_2 7), .int .i64 (rd x5_2 8), .int .i64 (rd x5_2 9), .int .i64 (rd x5_2 10), u153010] 32 (0, 0))) ∧ Aside0 (Kd.C (Kd.int .i64) w' A54 y153.length y153) ∧ Aside0 (Below w.heap.size w w'))
                       case atStart => exact ⟨(0), (([] : List Int)), (.slice none 0 0), (by first | rfl | (simp; done) | (simp [*]; done)), H', ⟨Nat.le_refl _⟩, ⟨by (try simp only [hl5_2]); (with_reducible repeat (first | apply Kd.R_alloc | apply Kd.R_drewN | apply Kd.R_drew)); exact Kd.R_mono HO_5.out (fun _ hk => (by simp [Value.ownBlock]))⟩, ⟨by (try simp only [hl5_2]); first | exact Kd.R_nil _ _ _ _ _ | exact Kd.N_nil _ _ _ _ _ | exact Kd.V_nil _ _ _ _ _ | exact Kd.Q_nil _ _ _ _ _ | exact Kd.S_nil _ _ _ _ _⟩, ⟨by (try simp only [hl5_2]); (with_reducible repeat (first | refine blk_drewN ?_ _ | refine blk_drew ?_ | refine blk_alloc ?_ _)); exact BK133.out⟩, ⟨by (try simp only [hl5_2]); (with_reducible repeat (first | refine blk_drewN ?_ _ | refine blk_drew ?_ | refine blk_alloc ?_ _)); exact BK152.out⟩, ⟨by repeat (first | (with_reducible exact HR156.out) | (with_reducible refine Kd.C_alloc ?_ _) | (with_reducible refine Kd.C_drewN ?_ _) | (with_reducible refine Kd.C_drew ?_) | exact HR156.out)⟩, ⟨by repeat (first | (with_reducible first | exact HB.out | apply below_alloc | apply pw_below_drewN | apply below_drew1 | refine below_set ?_ GE133.out | refine below_set ?_ GE152.out) | exact HB.out)⟩⟩
                       case round =>
                        clear H'
                        try clear c1
                        try clear p1
                        try clear q1
                        try clear hx1
                        try clear qi1
                        try clear c2
                        try clear p2
                        try clear q2
                        try clear hx2
                        try clear hf2
                        try clear c3
                        try clear c4
                        try clear c5
                        try clear q5
                        try clear p6
                        try clear p14
                        try clear q14
                        try clear hx14
                        try clear qi14
                        try clear p15
                        try clear q15
                        try clear hx15
                        try clear qi15
                        try clear c22
                        try clear c22b0
                        try clear c24
                        try clear c25
                        try clear p26
                        try clear q26
                        try clear hx26
                        try clear hf26
                        try clear c29
                        try clear c29b0
                        try clear c29b1
                        try clear c30
                        try clear c30b0
                        try clear c30b1
                        try clear c31
                        try clear c31b0
                        try clear c31b1
                        try clear c32
                        try clear c32b0
                        try clear c32b1
                        try clear c33
                        try clear c33b0
                        try clear c33b1
                        try clear c34
                        try clear c34b0
                        try clear c34b1
                        try clear c35
                        try clear c35b0
                        try clear c35b1
                        try clear c36
                        try clear c36b0
                        try clear c36b1
                        try clear c37
                        try clear c37b0
                        try clear c37b1
                        try clear c38
                        try clear c38b0
                        try clear c38b1
                        try clear c39
                        try clear c39b0
                        try clear c39b1
                        try clear c40
                        try clear c54
                        try clear q54
                        try clear hx142_0
                        try clear hx143_0
                        try clear hx144_0
                        try clear hx145_0
                        try clear hx146_0
                        try clear hx147_0
                        try clear hx148_0
                        try clear hx149_0
                        try clear hx150_0
                        try clear hx151_0
                        try clear hx26_0
                        try clear p142
                        try clear p143
                        try clear p144
                        try clear p145
                        try clear p146
                        try clear p147
                        try clear p148
                        try clear p149
                        try clear p150
                        try clear p151
                        try clear p26
                        try clear q142
                        try clear q143
                        try clear q144
                        try clear q145
                        try clear q146
                        try clear q147
                        try clear q148
                        try clear q149
                        try clear q150
                        try clear q151
                        try clear q26
                        try clear q54
                        obtain ⟨x90_3, x153010_3, u153010, rfl, HA, HK3, HO_5, HO_153010, BK133, BK152, HR156, HB⟩ := hrel
                        cases gk with
                        | zero => exact absurd HA.out (by simp [wire_Take.l1])
                        | succ k3 =>
                         have H := HA.out
                         clear HA
                         simp only [wire_Take.l1] at H
                         by_cases c55 : x90_3 < (y153.length : Int)
                         ·rw [if_pos c55] at H
                          have c55b0 : decide (x90_3 < (y153.length : Int)) = true := decide_eq_true c55
                          have c55b0l := c55b0
                          (try simp only [hl5_2] at c55b0l)
                          clear c55
                          by_cases c56 : 0 ≤ x90_3
                          ·rw [if_pos c56] at H
                           have c56b0 : decide (0 ≤ x90_3) = true := decide_eq_true c56
                           clear c56
                           by_cases c57 : x90_3 < (y153.length : Int)
                           ·rw [if_pos c57] at H
                            have c57b0 : decide (x90_3 < (y153.length : Int)) = true := decide_eq_true c57
                            have c57b0l := c57b0
                            (try simp only [hl5_2] at c57b0l)
                            clear c57
                            replace H := Option.bind_eq_some_iff.mp H
                            obtain ⟨t158, A580, H⟩ := H
                            replace H : (if x153010_3.length < 17592186044416 then (wire_Take.l1 k3 x5_2 y153 (y153.length : Int) (wrap64 (x90_3 + 1)) (rd x5_2 1) (rd x5_2 2) (rd x5_2 3) (rd x5_2 4) (rd x5_2 5) (rd x5_2 6) (rd x5_2 7) (rd x5_2 8) (rd x5_2 9) (rd x5_2 10) (x153010_3 ++ [t158])) else (none)) = some (r1, r2, r3, r4, r5, r6, r7, r8, r9, r10, r11, r12) := H
                            have A58 := Aside0.mk A580
                            clear A580
                            by_cases c59 : x153010_3.length < 17592186044416
                            ·rw [if_pos c59] at H
                             have LMc59 := Aside0.mk c59
                             clear c59
                             obtain ⟨y159, hy159⟩ : ∃ y_ : List Int, y_ = (x153010_3 ++ [t158]) := ⟨_, rfl⟩
                             replace H : (wire_Take.l1 k3 x5_2 y153 (y153.length : Int) (wrap64 (x90_3 + 1)) (rd x5_2 1) (rd x5_2 2) (rd x5_2 3) (rd x5_2 4) (rd x5_2 5) (rd x5_2 6) (rd x5_2 7) (rd x5_2 8) (rd x5_2 9) (rd x5_2 10) y159) = some (r1, r2, r3, r4, r5, r6, r7, r8, r9, r10, r11, r12) := by first | (rw [hy159]; with_reducible exact H) | (have H2_ := (Option.bind_some _ _).symm.trans H; rw [hy159]; with_reducible exact H2_) | (have H2_ := (Option.bind_some _ _).symm.trans H; with_reducible exact H2_) | with_reducible exact H | (rw [hy159]; exact H) | exact H
                             have Ny159 := Aside0.mk hy159
                             clear hy159
                             have H' := Aside0.mk H
                             clear H
                             have p157 : 0 ≤ (x90_3 : Int) := of_decide_eq_true (by first | (with_reducible assumption) | assumption)
                             have q157 : x90_3 < (y153.length : Int) := of_decide_eq_true (by first | (with_reducible assumption) | assumption)
                             obtain ⟨ad157, e157, hx157_0⟩ := Kd.at_int HR156.out x90_3 p157 q157
                             cases e157
                             replace p157 := eq_true p157
                             replace q157 := eq_true q157
                             try go_wp2
                             have n0_ := Aside0.mk (Kd.R_drew HO_5.out)
                             have n1_ := Aside0.mk (Kd.R_drew HO_153010.out)
                             have n2_ := Aside0.mk (blk_drew BK133.out)
                             have n3_ := Aside0.mk (blk_drew BK152.out)
                             have n4_ := Aside0.mk (Kd.C_drew HR156.out)
                             have n5_ := Aside0.mk (below_drew1 HB.out)
                             clear HO_5
                             clear HO_153010
                             clear BK133
                             clear BK152
                             clear HR156
                             clear HB
                             have HO_5 := n0_
                             have HO_153010 := n1_
                             have BK133 := n2_
                             have BK152 := n3_
                             have HR156 := n4_
                             have HB := n5_
                             clear n0_ n1_ n2_ n3_ n4_ n5_
                             refine start_ (n := 8) (S := fun w' => w'.cell? ⟨gb152, 0, none⟩ = some (.int .i64 (rd x5_2 1)) ∧ w'.cell? ⟨gb152, 1, none⟩ = some (.int .i64 (rd x5_2 2)) ∧ w'.cell? ⟨gb152, 2, none⟩ = some (.int .i64 (rd x5_2 3)) ∧ w'.cell? ⟨gb152, 3, none⟩ = some (.int .i64 (rd x5_2 4)) ∧ w'.cell? ⟨gb152, 4, none⟩ = some (.int .i64 (rd x5_2 5)) ∧ w'.cell? ⟨gb152, 5, none⟩ = some (.int .i64 (rd x5_2 6)) ∧ w'.cell? ⟨gb152, 6, none⟩ = some (.int .i64 (rd x5_2 7)) ∧ w'.cell? ⟨gb152, 7, none⟩ = some (.int .i64 (rd x5_2 8)) ∧ w'.cell? ⟨gb152, 8, none⟩ = some (.int .i64 (rd x5_2 9)) ∧ w'.cell? ⟨gb152, 9, none⟩ = some (.int .i64 (rd x5_2 10)) ∧ w'.cell? ⟨gb152, 10, none⟩ = some (u153010)) (ds := [7]) #[false, false, false, false, false, false, false, false] (by kernel_rfl) rfl rfl ⟨(blk_cell BK152.out 0).trans rfl, (blk_cell BK152.out 1).trans rfl, (blk_cell BK152.out 2).trans rfl, (blk_cell BK152.out 3).trans rfl, (blk_cell BK152.out 4).trans rfl, (blk_cell BK152.out 5).trans rfl, (blk_cell BK152.out 6).trans rfl, (blk_cell BK152.out 7).trans rfl, (blk_cell BK152.out 8).trans rfl, (blk_cell BK152.out 9).trans rfl, (blk_cell BK152.out 10).trans rfl⟩ (fun hHeld => ?_); refine with_tabW wire_Take.tab16 wire_Take.bits16 (fun HT_ HW_ => ?_)
                             generalize wr.drew = w60 at HO_5 HO_153010 BK133 BK152 HR156 HB hHeld ⊢
                             refine pure_ (i := 0) (N := some 94) (v := ?_) (a' := ?_) #[true, false, false, false, false, false, false, false] rfl rfl (any_of HT_.out (by kernel_rfl)) (fun _ _ _ h => h) (Or.inl ⟨by rfl, ?_⟩) ?_ ?_
                             rotate_left
                             ·intro w'
                              go_simp
                              with_reducible rfl
                             rotate_left
                             ·simp only [Act.put, List.setIfInBounds_toArray, List.set_cons_zero, List.set_cons_succ, i64_w, i32_w]
                              rfl
                             refine pure_ (i := 2) (N := some 96) (v := ?_) (a' := ?_) #[true, false, true, false, false, false, false, false] rfl rfl (any_of HT_.out (by kernel_rfl)) (fun _ _ _ h => h) (Or.inl ⟨by rfl, ?_⟩) ?_ ?_
                             rotate_left
                             ·intro w'
                              go_simp
                              with_reducible rfl
                             rotate_left
                             ·simp only [Act.put, List.setIfInBounds_toArray, List.set_cons_zero, List.set_cons_succ, i64_w, i32_w]
                              rfl
                             refine take_ (i := 1) (N := some 95) (v := ?_) (a' := ?_) #[true, true, true, false, false, false, false, false] rfl rfl (take_ofW HT_.out HW_.out (by kernel_rfl)) (fun _ _ _ h => h) (Or.inl ⟨by rfl, ?_⟩) hHeld ?_ ?_
                             rotate_left
                             ·rintro w' ⟨s0, s1, s2, s3, s4, s5, s6, s7, s8, s9, s10⟩
                              go_simp
                              with_reducible rfl
                             rotate_left
                             ·simp only [Act.put, List.setIfInBounds_toArray, List.set_cons_zero, List.set_cons_succ, i64_w, i32_w]
                              rfl
                             refine one_ (i := 3) (N := some 97) #[true, true, true, true, false, false, false, false] rfl rfl (one_of HT_.out (by kernel_rfl)) (by decide) (fun K hK => ?_)
                             refine goes_ Try.func41 (by kernel_rfl) rfl #[.int .i64 (rd y153 x90_3)] (by rfl) rfl rfl (by (try simp only [List.map_toArray, List.map_cons, List.map_nil]); first | done | rfl | (simp only [ByteArray.size_append, Int.natCast_add, List.length_drop, List.length_take]; first | done | rfl) | (simp only [List.length_drop, List.length_take]; rfl)) ?_
                             with_reducible refine (wire_signed.calls (rd y153 x90_3) t158 _ A58.out).mono ?_
                             rintro e w' ⟨rfl, ⟨nd, rfl⟩⟩
                             refine ⟨_, rfl, ?_⟩
                             refine hK.out _ _ ⟨(blk_cell BK152.out 0).trans rfl, (blk_cell BK152.out 1).trans rfl, (blk_cell BK152.out 2).trans rfl, (blk_cell BK152.out 3).trans rfl, (blk_cell BK152.out 4).trans rfl, (blk_cell BK152.out 5).trans rfl, (blk_cell BK152.out 6).trans rfl, (blk_cell BK152.out 7).trans rfl, (blk_cell BK152.out 8).trans rfl, (blk_cell BK152.out 9).trans rfl, (blk_cell BK152.out 10).trans rfl⟩ (fun hHeld => ?_)
                             clear hK K
                             refine norm_ (a' := ?_) ?_ ?_
                             rotate_left
                             ·show Act.put _ (some 97) _ = _
                              simp only [Act.put, List.setIfInBounds_toArray, List.set_cons_zero, List.set_cons_succ, i64_w, i32_w]
                              rfl
                             refine one_ (i := 4) (N := some 98) #[true, true, true, true, true, false, false, false] rfl rfl (one_of HT_.out (by kernel_rfl)) (by decide) (fun K hK => ?_)
                             refine value_ (w1 := ?_) (v := ?_) (by rfl) rfl ?_ ?_
                             rotate_left 2
                             ·go_simp
                              constructor
                              ·rfl
                              ·rfl
                             refine hK.out _ _ ⟨(blk_cell (blk_alloc BK152.out _) 0).trans rfl, (blk_cell (blk_alloc BK152.out _) 1).trans rfl, (blk_cell (blk_alloc BK152.out _) 2).trans rfl, (blk_cell (blk_alloc BK152.out _) 3).trans rfl, (blk_cell (blk_alloc BK152.out _) 4).trans rfl, (blk_cell (blk_alloc BK152.out _) 5).trans rfl, (blk_cell (blk_alloc BK152.out _) 6).trans rfl, (blk_cell (blk_alloc BK152.out _) 7).trans rfl, (blk_cell (blk_alloc BK152.out _) 8).trans rfl, (blk_cell (blk_alloc BK152.out _) 9).trans rfl, (blk_cell (blk_alloc BK152.out _) 10).trans rfl⟩ (fun hHeld => ?_)
                             clear hK K
                             refine norm_ (a' := ?_) ?_ ?_
                             rotate_left
                             ·show Act.put _ (some 98) _ = _
                              simp only [Act.put, List.setIfInBounds_toArray, List.set_cons_zero, List.set_cons_succ, i64_w, i32_w]
                              rfl
                             refine one_ (i := 5) (N := some 99) #[true, true, true, true, true, true, false, false] rfl rfl (one_of HT_.out (by kernel_rfl)) (by decide) (fun K hK => ?_)
                             refine Kd.R_append_step (Kd.int .i64) (w0 := w) w.heap.size (by rfl) (.tmp 95) (.tmp 98) 30 3 (.int .i64 0) 8 rfl Try.underlying30 info3 rfl (by decide) (by omega) u153010 x153010_3 t158 [.int .i64 t158] (fun k_ => some k_ ≠ (.slice (some ad142) x5_2.length co21 : Value).ownBlock) (fun _ => False) rfl rfl ?aP (fun _ hk => hk.elim) ?aF ?aO ?aB ?aS ?aL ?_
                             (case aP => exact rfl)
                             (case aB => exact (by repeat (first | (with_reducible first | exact HB.out | apply below_alloc | apply pw_below_drewN | apply below_drew1 | refine below_set ?_ GE133.out | refine below_set ?_ GE152.out) | exact HB.out)))
                             (case aF => exact (fun k_ hk => Kd.fresh' (Kd.R_lt (by (with_reducible repeat (first | apply Kd.R_alloc | apply Kd.R_drewN | apply Kd.R_drew)); exact HO_5.out)) k_ hk))
                             (case aO => exact (by (with_reducible repeat (first | apply Kd.R_alloc | apply Kd.R_drewN | apply Kd.R_drew)); exact HO_153010.out))
                             (case aS => exact (below_size (by repeat (first | (with_reducible first | exact HB.out | apply below_alloc | apply pw_below_drewN | apply below_drew1 | refine below_set ?_ GE133.out | refine below_set ?_ GE152.out) | exact HB.out))))
                             (case aL => have := LMc59.out; omega)
                             intro v160 w61 ho hb hg hat
                             rw [← Ny159.out] at ho
                             have n0_ := Aside0.mk (Kd.R_after (ok := (fun _ => True)) (by (with_reducible repeat (first | apply Kd.R_alloc | apply Kd.R_drewN | apply Kd.R_drew)); exact Kd.R_mono HO_5.out (fun _ hk => ⟨trivial, hk⟩)) hg hat)
                             have n1_ := Aside0.mk (blk_grown (g := gb133) (o := .cells #[.int .i64 0, .int .i64 0, .int .i64 0, .int .i64 0, .int .i64 0, .int .i64 0, .int .i64 0, .int .i64 0, .int .i64 0, .int .i64 0, .slice none 0 0] 32 (0, 0)) (by (with_reducible repeat (first | refine blk_drewN ?_ _ | refine blk_drew ?_ | refine blk_alloc ?_ _)); exact BK133.out) hg (Kd.R_ne HO_153010.out BK133.out (by decide)))
                             have n2_ := Aside0.mk (blk_grown (g := gb152) (o := .cells #[.int .i64 (rd x5_2 1), .int .i64 (rd x5_2 2), .int .i64 (rd x5_2 3), .int .i64 (rd x5_2 4), .int .i64 (rd x5_2 5), .int .i64 (rd x5_2 6), .int .i64 (rd x5_2 7), .int .i64 (rd x5_2 8), .int .i64 (rd x5_2 9), .int .i64 (rd x5_2 10), u153010] 32 (0, 0)) (by (with_reducible repeat (first | refine blk_drewN ?_ _ | refine blk_drew ?_ | refine blk_alloc ?_ _)); exact BK152.out) hg (Kd.R_ne HO_153010.out BK152.out (by decide)))
                             have n3_ := Aside0.mk (hb)
                             have n4_ := Aside0.mk ((show Kd.C (Kd.int .i64) w61 (some ad157) y153.length y153 from by rw [Ny153.out, KA54.out]; exact Kd.C_drop (m := 12) (c := co21) ((Kd.R_reads' (Kd.R_after (ok := (fun _ => True)) (by (with_reducible repeat (first | apply Kd.R_alloc | apply Kd.R_drewN | apply Kd.R_drew)); exact Kd.R_mono HO_5.out (fun _ hk => ⟨trivial, hk⟩)) hg hat)).2.2) KL54.out ((Kd.R_reads' (Kd.R_after (ok := (fun _ => True)) (by (with_reducible repeat (first | apply Kd.R_alloc | apply Kd.R_drewN | apply Kd.R_drew)); exact Kd.R_mono HO_5.out (fun _ hk => ⟨trivial, hk⟩)) hg hat)).2.1)))
                             have n5_ := Aside0.mk (ho)
                             clear HO_5
                             clear BK133
                             clear BK152
                             clear HB
                             clear HR156
                             clear HO_153010
                             have HO_5 := n0_
                             have BK133 := n1_
                             have BK152 := n2_
                             have HB := n3_
                             have HR156 := n4_
                             have HO161 := n5_
                             clear n0_ n1_ n2_ n3_ n4_ n5_
                             clear ho hb hg hat
                             obtain ⟨Ao62, co62, eo62⟩ := Kd.R_slice HO161.out
                             (first | subst eo62 | (injection eo62 with f1_ f2_ f3_; have f4_ := f1_.symm; have f5_ := f3_.symm; clear f1_ f2_ f3_; subst f4_; subst f5_))
                             refine hK.out _ _ ⟨(blk_cell BK152.out 0).trans rfl, (blk_cell BK152.out 1).trans rfl, (blk_cell BK152.out 2).trans rfl, (blk_cell BK152.out 3).trans rfl, (blk_cell BK152.out 4).trans rfl, (blk_cell BK152.out 5).trans rfl, (blk_cell BK152.out 6).trans rfl, (blk_cell BK152.out 7).trans rfl, (blk_cell BK152.out 8).trans rfl, (blk_cell BK152.out 9).trans rfl, (blk_cell BK152.out 10).trans rfl⟩ (fun hHeld => ?_)
                             clear hK K
                             refine norm_ (a' := ?_) ?_ ?_
                             rotate_left
                             ·show Act.put _ (some 99) _ = _
                              simp only [Act.put, List.setIfInBounds_toArray, List.set_cons_zero, List.set_cons_succ, i64_w, i32_w]
                              rfl
                             refine pure_ (i := 6) (N := some 100) (v := ?_) (a' := ?_) #[true, true, true, true, true, true, true, false] rfl rfl (any_of HT_.out (by kernel_rfl)) (fun _ _ _ h => h) (Or.inl ⟨by rfl, ?_⟩) ?_ ?_
                             rotate_left
                             ·intro w'
                              go_simp
                              with_reducible rfl
                             rotate_left
                             ·simp only [Act.put, List.setIfInBounds_toArray, List.set_cons_zero, List.set_cons_succ, i64_w, i32_w]
                              rfl
                             refine last_ (i := 7) (N := none) #[true, true, true, true, true, true, true, true] rfl rfl (one_of HT_.out (by kernel_rfl)) (by decide) (fun K hK => ?_)
                             have hs63 : w61.cell? ⟨gb152, 10, none⟩ = some (u153010) := (blk_cell BK152.out 10).trans rfl
                             have hfs63 := blk_frozen BK152.out 10
                             have hns63_0 := NB133_152.out
                             have hms63_0 := NB152_133.out
                             refine skip_ (w1 := ?_) (by rfl) rfl ?_ ?_
                             rotate_left
                             ·go_simp
                              rfl
                             refine hK.out _ _ ?_
                             clear hK K
                             refine done_ (done_of HT_.out (by kernel_rfl)) ?_
                             try go_wp2
                             go_roundg k3
                             case measure => have := HJ1.out; have := HK2.out; have := HK3.out; omega
                             case rel => exact ⟨(wrap64 (x90_3 + 1)), (y159), (.slice Ao62 y159.length co62), (by first | rfl | (simp; done) | (simp [*]; done)), H', ⟨by have := HJ1.out; have := HK2.out; have := HK3.out; omega⟩, ⟨by (try simp only [hl5_2]); (with_reducible repeat (first | apply Kd.R_alloc | apply Kd.R_drewN | apply Kd.R_drew)); exact Kd.R_mono (Kd.R_far (p := ⟨gb152, 10, none⟩) (Kd.R_types HO_5.out BK152.out (by decide)) (fun _ hk => hk.2) (.slice Ao62 y159.length co62)) (fun _ hk => hk.1.2)⟩, ⟨by (try simp only [hl5_2]); (with_reducible repeat (first | apply Kd.R_alloc | apply Kd.R_drewN | apply Kd.R_drew)); exact Kd.R_mono (Kd.R_far (p := ⟨gb152, 10, none⟩) (Kd.R_types HO161.out BK152.out (by decide)) (fun _ hk => hk.2) (.slice Ao62 y159.length co62)) (fun _ hk => hk.1)⟩, ⟨by (try simp only [hl5_2]); (with_reducible repeat (first | refine blk_drewN ?_ _ | refine blk_drew ?_ | refine blk_alloc ?_ _)); refine blk_far ?_ NB133_152.out _; (with_reducible repeat (first | refine blk_drewN ?_ _ | refine blk_drew ?_ | refine blk_alloc ?_ _)); exact BK133.out⟩, ⟨by (try simp only [hl5_2]); (with_reducible repeat (first | refine blk_drewN ?_ _ | refine blk_drew ?_ | refine blk_alloc ?_ _)); refine blk_put (cs := #[.int .i64 (rd x5_2 1), .int .i64 (rd x5_2 2), .int .i64 (rd x5_2 3), .int .i64 (rd x5_2 4), .int .i64 (rd x5_2 5), .int .i64 (rd x5_2 6), .int .i64 (rd x5_2 7), .int .i64 (rd x5_2 8), .int .i64 (rd x5_2 9), .int .i64 (rd x5_2 10), u153010]) ?_ 10 _ rfl; (with_reducible repeat (first | refine blk_drewN ?_ _ | refine blk_drew ?_ | refine blk_alloc ?_ _)); exact BK152.out⟩, ⟨(by rw [Ny153.out, KA54.out]; exact Kd.C_drop (m := 12) (c := _) (Kd.R_reads' ((Kd.R_far (p := ⟨gb152, 10, none⟩) (Kd.R_types HO_5.out BK152.out (by decide)) (fun _ hk => hk.2) (.slice Ao62 y159.length co62)))).2.2 KL54.out (Kd.R_reads' ((Kd.R_far (p := ⟨gb152, 10, none⟩) (Kd.R_types HO_5.out BK152.out (by decide)) (fun _ hk => hk.2) (.slice Ao62 y159.length co62)))).2.1)⟩, ⟨by repeat (first | (with_reducible first | exact HB.out | apply below_alloc | apply pw_below_drewN | apply below_drew1 | refine below_set ?_ GE133.out | refine below_set ?_ GE152.out) | exact HB.out)⟩⟩
                            ·rw [if_neg c59] at H
                             exact absurd H (by simp)
                           ·rw [if_neg c57] at H
                            exact absurd H (by simp)
                          ·rw [if_neg c56] at H
                           exact absurd H (by simp)
                         ·rw [if_neg c55] at H
                          have c55b0 : decide (x90_3 < (y153.length : Int)) = false := decide_eq_false c55
                          have c55b0l := c55b0
                          (try simp only [hl5_2] at c55b0l)
                          clear c55
                          by_cases c64 : 11 < (x5_2.length : Int)
                          ·rw [if_pos c64] at H
                           have c64b0 : decide (11 < (x5_2.length : Int)) = true := decide_eq_true c64
                           have c64b0l := c64b0
                           (try simp only [hl5_2] at c64b0l)
                           have c64b1 : decide (11 < x5_2.length) = true := decide_eq_true (by omega)
                           have c64b1l := c64b1
                           (try simp only [hl5_2] at c64b1l)
                           clear c64
                           by_cases c65 : (rd x5_2 11) = (x153010_3.length : Int)
                           ·rw [if_pos c65] at H
                            have c65b0 : ((rd x5_2 11) == (x153010_3.length : Int)) = true := beq_iff_eq.mpr c65
                            have c65b0l := c65b0
                            (try simp only [hl5_2] at c65b0l)
                            have c65b1 : ((rd x5_2 11) != (x153010_3.length : Int)) = false := bne_eq_false_iff_eq.mpr c65
                            have c65b1l := c65b1
                            (try simp only [hl5_2] at c65b1l)
                            clear c65
                            replace H := Option.bind_eq_some_iff.mp H
                            obtain ⟨t163, A660, H⟩ := H
                            replace H : (if t163 = true then (some ((rd x5_2 1), (rd x5_2 2), (rd x5_2 3), (rd x5_2 4), (rd x5_2 5), (rd x5_2 6), (rd x5_2 7), (rd x5_2 8), (rd x5_2 9), (rd x5_2 10), x153010_3, 0)) else (some (0, 0, 0, 0, 0, 0, 0, 0, 0, 0, ([] : List Int), 2))) = some (r1, r2, r3, r4, r5, r6, r7, r8, r9, r10, r11, r12) := H
                            have A66 := Aside0.mk A660
                            clear A660
                            by_cases c67 : t163 = true
                            ·subst c67
                             have H1 : (some ((rd x5_2 1), (rd x5_2 2), (rd x5_2 3), (rd x5_2 4), (rd x5_2 5), (rd x5_2 6), (rd x5_2 7), (rd x5_2 8), (rd x5_2 9), (rd x5_2 10), x153010_3, 0)) = some (r1, r2, r3, r4, r5, r6, r7, r8, r9, r10, r11, r12) := by rw [if_pos rfl] at H; exact H
                             clear H
                             have H := H1
                             clear H1
                             simp only [Option.some.injEq, Prod.mk.injEq] at H
                             obtain ⟨rfl, rfl, rfl, rfl, rfl, rfl, rfl, rfl, rfl, rfl, rfl, rfl⟩ := H
                             try go_wp2
                             have n0_ := Aside0.mk (Kd.R_drew HO_5.out)
                             have n1_ := Aside0.mk (Kd.R_drew HO_153010.out)
                             have n2_ := Aside0.mk (blk_drew BK133.out)
                             have n3_ := Aside0.mk (blk_drew BK152.out)
                             have n4_ := Aside0.mk (Kd.C_drew HR156.out)
                             have n5_ := Aside0.mk (below_drew1 HB.out)
                             clear HO_5
                             clear HO_153010
                             clear BK133
                             clear BK152
                             clear HR156
                             clear HB
                             have HO_5 := n0_
                             have HO_153010 := n1_
                             have BK133 := n2_
                             have BK152 := n3_
                             have HR156 := n4_
                             have HB := n5_
                             clear n0_ n1_ n2_ n3_ n4_ n5_
                             have p162 : 0 ≤ (11 : Int) := (by omega)
                             have q162 : 11 < (x5_2.length : Int) := of_decide_eq_true (by first | (with_reducible assumption) | assumption)
                             obtain ⟨ad162, e162, hx162_0⟩ := Kd.at_int (Kd.R_reads' HO_5.out).2.2 11 p162 q162
                             obtain rfl : ad142 = ad162 := (by injection e162)
                             (try simp only [show (11 : Int).toNat = 11 from rfl, Nat.reduceMul, Nat.reduceEqDiff, Go.Addr.add, ↓reduceIte] at hx162_0)
                             have qi162 : (11 < x5_2.length) = True := eq_true (by omega)
                             (try rw [show ((11 : Int)).toNat = 11 from rfl] at hx162_0)
                             replace p162 := eq_true p162
                             replace q162 := eq_true q162
                             obtain ⟨Ao69, co69, eo69⟩ := Kd.R_slice HO_153010.out
                             (first | subst eo69 | (injection eo69 with f1_ f2_ f3_; have f4_ := f1_.symm; have f5_ := f3_.symm; clear f1_ f2_ f3_; subst f4_; subst f5_))
                             refine start_ (n := 12) (S := fun w' => w'.cell? ⟨gb152, 0, none⟩ = some (.int .i64 (rd x5_2 1)) ∧ w'.cell? ⟨gb152, 1, none⟩ = some (.int .i64 (rd x5_2 2)) ∧ w'.cell? ⟨gb152, 2, none⟩ = some (.int .i64 (rd x5_2 3)) ∧ w'.cell? ⟨gb152, 3, none⟩ = some (.int .i64 (rd x5_2 4)) ∧ w'.cell? ⟨gb152, 4, none⟩ = some (.int .i64 (rd x5_2 5)) ∧ w'.cell? ⟨gb152, 5, none⟩ = some (.int .i64 (rd x5_2 6)) ∧ w'.cell? ⟨gb152, 6, none⟩ = some (.int .i64 (rd x5_2 7)) ∧ w'.cell? ⟨gb152, 7, none⟩ = some (.int .i64 (rd x5_2 8)) ∧ w'.cell? ⟨gb152, 8, none⟩ = some (.int .i64 (rd x5_2 9)) ∧ w'.cell? ⟨gb152, 9, none⟩ = some (.int .i64 (rd x5_2 10)) ∧ w'.cell? ⟨gb152, 10, none⟩ = some (.slice Ao69 x153010_3.length co69) ∧ w'.cell? ⟨ad142.block, ad142.off + 11, none⟩ = some (.int .i64 (rd x5_2 11))) (ds := []) #[false, false, false, false, false, false, false, false, false, false, false, false] (by kernel_rfl) rfl rfl ⟨(blk_cell BK152.out 0).trans rfl, (blk_cell BK152.out 1).trans rfl, (blk_cell BK152.out 2).trans rfl, (blk_cell BK152.out 3).trans rfl, (blk_cell BK152.out 4).trans rfl, (blk_cell BK152.out 5).trans rfl, (blk_cell BK152.out 6).trans rfl, (blk_cell BK152.out 7).trans rfl, (blk_cell BK152.out 8).trans rfl, (blk_cell BK152.out 9).trans rfl, (blk_cell BK152.out 10).trans rfl, hx162_0⟩ (fun hHeld => ?_); refine with_tabW wire_Take.tab18 wire_Take.bits18 (fun HT_ HW_ => ?_)
                             generalize wr.drew = w68 at HO_5 HO_153010 BK133 BK152 HR156 HB hx162_0 hHeld ⊢
                             refine pure_ (i := 0) (N := some 102) (v := ?_) (a' := ?_) #[true, false, false, false, false, false, false, false, false, false, false, false] rfl rfl (any_of HT_.out (by kernel_rfl)) (fun _ _ _ h => h) (Or.inl ⟨by rfl, ?_⟩) ?_ ?_
                             rotate_left
                             ·intro w'
                              go_simp
                              with_reducible rfl
                             rotate_left
                             ·simp only [Act.put, List.setIfInBounds_toArray, List.set_cons_zero, List.set_cons_succ, i64_w, i32_w]
                              rfl
                             refine pure_ (i := 1) (N := some 103) (v := ?_) (a' := ?_) #[true, true, false, false, false, false, false, false, false, false, false, false] rfl rfl (any_of HT_.out (by kernel_rfl)) (fun _ _ _ h => h) (Or.inl ⟨by rfl, ?_⟩) ?_ ?_
                             rotate_left
                             ·intro w'
                              go_simp
                              with_reducible rfl
                             rotate_left
                             ·simp only [Act.put, List.setIfInBounds_toArray, List.set_cons_zero, List.set_cons_succ, i64_w, i32_w]
                              rfl
                             refine pure_ (i := 3) (N := some 105) (v := ?_) (a' := ?_) #[true, true, false, true, false, false, false, false, false, false, false, false] rfl rfl (any_of HT_.out (by kernel_rfl)) (fun _ _ _ h => h) (Or.inl ⟨by rfl, ?_⟩) ?_ ?_
                             rotate_left
                             ·intro w'
                              go_simp
                              with_reducible rfl
                             rotate_left
                             ·simp only [Act.put, List.setIfInBounds_toArray, List.set_cons_zero, List.set_cons_succ, i64_w, i32_w]
                              rfl
                             refine take_ (i := 2) (N := some 104) (v := ?_) (a' := ?_) #[true, true, true, true, false, false, false, false, false, false, false, false] rfl rfl (take_ofW HT_.out HW_.out (by kernel_rfl)) (fun _ _ _ h => h) (Or.inl ⟨by rfl, ?_⟩) hHeld ?_ ?_
                             rotate_left
                             ·rintro w' ⟨s0, s1, s2, s3, s4, s5, s6, s7, s8, s9, s10, s11⟩
                              go_simp
                              with_reducible rfl
                             rotate_left
                             ·simp only [Act.put, List.setIfInBounds_toArray, List.set_cons_zero, List.set_cons_succ, i64_w, i32_w]
                              rfl
                             refine take_ (i := 4) (N := some 106) (v := ?_) (a' := ?_) #[true, true, true, true, true, false, false, false, false, false, false, false] rfl rfl (take_ofW HT_.out HW_.out (by kernel_rfl)) (fun _ _ _ h => h) (Or.inl ⟨by rfl, ?_⟩) hHeld ?_ ?_
                             rotate_left
                             ·rintro w' ⟨s0, s1, s2, s3, s4, s5, s6, s7, s8, s9, s10, s11⟩
                              go_simp
                              with_reducible rfl
                             rotate_left
                             ·simp only [Act.put, List.setIfInBounds_toArray, List.set_cons_zero, List.set_cons_succ, i64_w, i32_w]
                              rfl
                             refine pure_ (i := 5) (N := some 107) (v := ?_) (a' := ?_) #[true, true, true, true, true, true, false, false, false, false, false, false] rfl rfl (any_of HT_.out (by kernel_rfl)) (fun _ _ _ h => h) (Or.inl ⟨by rfl, ?_⟩) ?_ ?_
                             rotate_left
                             ·intro w'
                              go_simp
                              with_reducible rfl
                             rotate_left
                             ·simp only [Act.put, List.setIfInBounds_toArray, List.set_cons_zero, List.set_cons_succ, i64_w, i32_w]
                              rfl
                             refine pure_ (i := 6) (N := some 108) (v := ?_) (a' := ?_) #[true, true, true, true, true, true, true, false, false, false, false, false] rfl rfl (any_of HT_.out (by kernel_rfl)) (fun _ _ _ h => h) (Or.inl ⟨by rfl, ?_⟩) ?_ ?_
                             rotate_left
                             ·intro w'
                              go_simp
                              with_reducible rfl
                             rotate_left
                             ·simp only [Act.put, List.setIfInBounds_toArray, List.set_cons_zero, List.set_cons_succ, i64_w, i32_w]
                              rfl
                             refine pure_ (i := 7) (N := some 109) (v := ?_) (a' := ?_) #[true, true, true, true, true, true, true, true, false, false, false, false] rfl rfl (any_of HT_.out (by kernel_rfl)) (fun _ _ _ h => h) (Or.inl ⟨by rfl, ?_⟩) ?_ ?_
                             rotate_left
                             ·intro w'
                              go_simp
                              with_reducible rfl
                             rotate_left
                             ·simp only [Act.put, List.setIfInBounds_toArray, List.set_cons_zero, List.set_cons_succ, i64_w, i32_w]
                              rfl
                             refine take_ (i := 8) (N := some 110) (v := ?_) (a' := ?_) #[true, true, true, true, true, true, true, true, true, false, false, false] rfl rfl (take_ofW HT_.out HW_.out (by kernel_rfl)) (fun _ _ _ h => h) (Or.inl ⟨by rfl, ?_⟩) hHeld ?_ ?_
                             rotate_left
                             ·rintro w' ⟨s0, s1, s2, s3, s4, s5, s6, s7, s8, s9, s10, s11⟩
                              go_simp
                              with_reducible rfl
                             rotate_left
                             ·simp only [Act.put, List.setIfInBounds_toArray, List.set_cons_zero, List.set_cons_succ, i64_w, i32_w]
                              rfl
                             refine one_ (i := 9) (N := some 111) #[true, true, true, true, true, true, true, true, true, true, false, false] rfl rfl (one_of HT_.out (by kernel_rfl)) (by decide) (fun K hK => ?_)
                             refine goes_ Try.func21 (by kernel_rfl) rfl #[.agg #[.int .i64 (rd x5_2 1), .int .i64 (rd x5_2 2), .int .i64 (rd x5_2 3), .int .i64 (rd x5_2 4), .int .i64 (rd x5_2 5), .int .i64 (rd x5_2 6), .int .i64 (rd x5_2 7), .int .i64 (rd x5_2 8), .int .i64 (rd x5_2 9), .int .i64 (rd x5_2 10), .slice Ao69 x153010_3.length co69]] (by rfl) rfl rfl (by (try simp only [List.map_toArray, List.map_cons, List.map_nil]); first | done | rfl | (simp only [ByteArray.size_append, Int.natCast_add, List.length_drop, List.length_take]; first | done | rfl) | (simp only [List.length_drop, List.length_take]; rfl)) ?_
                             with_reducible refine (wire_Right.calls k3 (rd x5_2 1) (rd x5_2 2) (rd x5_2 3) (rd x5_2 4) (rd x5_2 5) (rd x5_2 6) (rd x5_2 7) (rd x5_2 8) (rd x5_2 9) (rd x5_2 10) _ _ x153010_3 true _ ?side1 ?side2 A66.out).mono ?_
                             (case side1 => repeat (first | exact (Kd.R_reads' HO_153010.out).2.2 | (with_reducible refine Kd.C_alloc ?_ _) | (with_reducible refine Kd.C_drewN ?_ _) | (with_reducible refine Kd.C_drew ?_)))
                             (case side2 => exact (Kd.R_reads' HO_153010.out).2.1)
                             rintro e w70 ⟨rfl, hb⟩
                             have HS11_ := (hb.cell (World.block_lt_of_cell? _ _ (hHeld.2.2.2.2.2.2.2.2.2.2.2))).trans (hHeld.2.2.2.2.2.2.2.2.2.2.2)
                             refine ⟨_, rfl, ?_⟩
                             have n0_ := Aside0.mk (Kd.R_below (by (with_reducible repeat (first | apply Kd.R_alloc | apply Kd.R_drewN | apply Kd.R_drew)); exact HO_5.out) hb)
                             have n1_ := Aside0.mk (Kd.R_below (by (with_reducible repeat (first | apply Kd.R_alloc | apply Kd.R_drewN | apply Kd.R_drew)); exact HO_153010.out) hb)
                             have n2_ := Aside0.mk (blk_below (g := gb133) (o := .cells #[.int .i64 0, .int .i64 0, .int .i64 0, .int .i64 0, .int .i64 0, .int .i64 0, .int .i64 0, .int .i64 0, .int .i64 0, .int .i64 0, .slice none 0 0] 32 (0, 0)) (by (with_reducible repeat (first | refine blk_drewN ?_ _ | refine blk_drew ?_ | refine blk_alloc ?_ _)); exact BK133.out) hb)
                             have n3_ := Aside0.mk (blk_below (g := gb152) (o := .cells #[.int .i64 (rd x5_2 1), .int .i64 (rd x5_2 2), .int .i64 (rd x5_2 3), .int .i64 (rd x5_2 4), .int .i64 (rd x5_2 5), .int .i64 (rd x5_2 6), .int .i64 (rd x5_2 7), .int .i64 (rd x5_2 8), .int .i64 (rd x5_2 9), .int .i64 (rd x5_2 10), .slice Ao69 x153010_3.length co69] 32 (0, 0)) (by (with_reducible repeat (first | refine blk_drewN ?_ _ | refine blk_drew ?_ | refine blk_alloc ?_ _)); exact BK152.out) hb)
                             have n4_ := Aside0.mk (Kd.C_below (by repeat (first | (with_reducible exact HR156.out) | (with_reducible refine Kd.C_alloc ?_ _) | (with_reducible refine Kd.C_drewN ?_ _) | (with_reducible refine Kd.C_drew ?_) | exact HR156.out)) hb)
                             have n5_ := Aside0.mk (below_step (by repeat (first | (with_reducible first | exact HB.out | apply below_alloc | apply pw_below_drewN | apply below_drew1 | refine below_set ?_ GE133.out | refine below_set ?_ GE152.out) | exact HB.out)) hb)
                             clear HO_5
                             clear HO_153010
                             clear BK133
                             clear BK152
                             clear HR156
                             clear HB
                             have HO_5 := n0_
                             have HO_153010 := n1_
                             have BK133 := n2_
                             have BK152 := n3_
                             have HR156 := n4_
                             have HB := n5_
                             clear n0_ n1_ n2_ n3_ n4_ n5_
                             (try clear hb)
                             (try clear hb2)
                             (try clear hk)
                             (try clear hi)
                             refine hK.out _ _ ⟨(blk_cell BK152.out 0).trans rfl, (blk_cell BK152.out 1).trans rfl, (blk_cell BK152.out 2).trans rfl, (blk_cell BK152.out 3).trans rfl, (blk_cell BK152.out 4).trans rfl, (blk_cell BK152.out 5).trans rfl, (blk_cell BK152.out 6).trans rfl, (blk_cell BK152.out 7).trans rfl, (blk_cell BK152.out 8).trans rfl, (blk_cell BK152.out 9).trans rfl, (blk_cell BK152.out 10).trans rfl, HS11_⟩ (fun hHeld => ?_)
                             clear hK K
                             refine norm_ (a' := ?_) ?_ ?_
                             rotate_left
                             ·show Act.put _ (some 111) _ = _
                              simp only [Act.put, List.setIfInBounds_toArray, List.set_cons_zero, List.set_cons_succ, i64_w, i32_w]
                              rfl
                             refine pure_ (i := 10) (N := some 112) (v := ?_) (a' := ?_) #[true, true, true, true, true, true, true, true, true, true, true, false] rfl rfl (any_of HT_.out (by kernel_rfl)) (fun _ _ _ h => h) (Or.inl ⟨by rfl, ?_⟩) ?_ ?_
                             rotate_left
                             ·intro w'
                              go_simp
                              with_reducible rfl
                             rotate_left
                             ·simp only [Act.put, List.setIfInBounds_toArray, List.set_cons_zero, List.set_cons_succ, i64_w, i32_w]
                              rfl
                             refine pure_ (i := 11) (N := some 113) (v := ?_) (a' := ?_) #[true, true, true, true, true, true, true, true, true, true, true, true] rfl rfl (any_of HT_.out (by kernel_rfl)) (fun _ _ _ h => h) (Or.inl ⟨by rfl, ?_⟩) ?_ ?_
                             rotate_left
                             ·intro w'
                              go_simp
                              with_reducible rfl
                             rotate_left
                             ·simp only [Act.put, List.setIfInBounds_toArray, List.set_cons_zero, List.set_cons_succ, i64_w, i32_w]
                              rfl
                             refine done_ (done_of HT_.out (by kernel_rfl)) ?_
                             have hnb71 := NB152_133.out
                             have hnc71 := NB133_152.out
                             have hcz72_0 : w70.cell? ⟨gb152, 0, none⟩ = some (.int .i64 (rd x5_2 1)) := (blk_cell BK152.out 0).trans rfl
                             have hcz72_1 : w70.cell? ⟨gb152, 1, none⟩ = some (.int .i64 (rd x5_2 2)) := (blk_cell BK152.out 1).trans rfl
                             have hcz72_2 : w70.cell? ⟨gb152, 2, none⟩ = some (.int .i64 (rd x5_2 3)) := (blk_cell BK152.out 2).trans rfl
                             have hcz72_3 : w70.cell? ⟨gb152, 3, none⟩ = some (.int .i64 (rd x5_2 4)) := (blk_cell BK152.out 3).trans rfl
                             have hcz72_4 : w70.cell? ⟨gb152, 4, none⟩ = some (.int .i64 (rd x5_2 5)) := (blk_cell BK152.out 4).trans rfl
                             have hcz72_5 : w70.cell? ⟨gb152, 5, none⟩ = some (.int .i64 (rd x5_2 6)) := (blk_cell BK152.out 5).trans rfl
                             have hcz72_6 : w70.cell? ⟨gb152, 6, none⟩ = some (.int .i64 (rd x5_2 7)) := (blk_cell BK152.out 6).trans rfl
                             have hcz72_7 : w70.cell? ⟨gb152, 7, none⟩ = some (.int .i64 (rd x5_2 8)) := (blk_cell BK152.out 7).trans rfl
                             have hcz72_8 : w70.cell? ⟨gb152, 8, none⟩ = some (.int .i64 (rd x5_2 9)) := (blk_cell BK152.out 8).trans rfl
                             have hcz72_9 : w70.cell? ⟨gb152, 9, none⟩ = some (.int .i64 (rd x5_2 10)) := (blk_cell BK152.out 9).trans rfl
                             have hcz72_10 : w70.cell? ⟨gb152, 10, none⟩ = some (.slice Ao69 x153010_3.length co69) := (blk_cell BK152.out 10).trans rfl
                             have hfz72_0 := blk_frozen BK152.out 0
                             have hfz72_1 := blk_frozen BK152.out 1
                             have hfz72_2 := blk_frozen BK152.out 2
                             have hfz72_3 := blk_frozen BK152.out 3
                             have hfz72_4 := blk_frozen BK152.out 4
                             have hfz72_5 := blk_frozen BK152.out 5
                             have hfz72_6 := blk_frozen BK152.out 6
                             have hfz72_7 := blk_frozen BK152.out 7
                             have hfz72_8 := blk_frozen BK152.out 8
                             have hfz72_9 := blk_frozen BK152.out 9
                             have hfz72_10 := blk_frozen BK152.out 10
                             have hcz73_0 : w70.cell? ⟨gb133, 0, none⟩ = some (.int .i64 0) := (blk_cell BK133.out 0).trans rfl
                             have hcz73_1 : w70.cell? ⟨gb133, 1, none⟩ = some (.int .i64 0) := (blk_cell BK133.out 1).trans rfl
                             have hcz73_2 : w70.cell? ⟨gb133, 2, none⟩ = some (.int .i64 0) := (blk_cell BK133.out 2).trans rfl
                             have hcz73_3 : w70.cell? ⟨gb133, 3, none⟩ = some (.int .i64 0) := (blk_cell BK133.out 3).trans rfl
                             have hcz73_4 : w70.cell? ⟨gb133, 4, none⟩ = some (.int .i64 0) := (blk_cell BK133.out 4).trans rfl
                             have hcz73_5 : w70.cell? ⟨gb133, 5, none⟩ = some (.int .i64 0) := (blk_cell BK133.out 5).trans rfl
                             have hcz73_6 : w70.cell? ⟨gb133, 6, none⟩ = some (.int .i64 0) := (blk_cell BK133.out 6).trans rfl
                             have hcz73_7 : w70.cell? ⟨gb133, 7, none⟩ = some (.int .i64 0) := (blk_cell BK133.out 7).trans rfl
                             have hcz73_8 : w70.cell? ⟨gb133, 8, none⟩ = some (.int .i64 0) := (blk_cell BK133.out 8).trans rfl
                             have hcz73_9 : w70.cell? ⟨gb133, 9, none⟩ = some (.int .i64 0) := (blk_cell BK133.out 9).trans rfl
                             have hcz73_10 : w70.cell? ⟨gb133, 10, none⟩ = some (.slice none 0 0) := (blk_cell BK133.out 10).trans rfl
                             have hfz73_0 := blk_frozen BK133.out 0
                             have hfz73_1 := blk_frozen BK133.out 1
                             have hfz73_2 := blk_frozen BK133.out 2
                             have hfz73_3 := blk_frozen BK133.out 3
                             have hfz73_4 := blk_frozen BK133.out 4
                             have hfz73_5 := blk_frozen BK133.out 5
                             have hfz73_6 := blk_frozen BK133.out 6
                             have hfz73_7 := blk_frozen BK133.out 7
                             have hfz73_8 := blk_frozen BK133.out 8
                             have hfz73_9 := blk_frozen BK133.out 9
                             have hfz73_10 := blk_frozen BK133.out 10
                             try go_wp2
                             refine bodyPost_ret (results_ct rfl _ _ gb133 32 #[.int .i64 (rd x5_2 1), .int .i64 (rd x5_2 2), .int .i64 (rd x5_2 3), .int .i64 (rd x5_2 4), .int .i64 (rd x5_2 5), .int .i64 (rd x5_2 6), .int .i64 (rd x5_2 7), .int .i64 (rd x5_2 8), .int .i64 (rd x5_2 9), .int .i64 (rd x5_2 10), .slice Ao69 x153010_3.length co69] (0, 0) _ rfl (by (with_reducible repeat (first | refine blk_drewN ?_ _ | refine blk_drew ?_ | refine blk_alloc ?_ _)); refine blk_put (cs := #[.int .i64 (rd x5_2 1), .int .i64 (rd x5_2 2), .int .i64 (rd x5_2 3), .int .i64 (rd x5_2 4), .int .i64 (rd x5_2 5), .int .i64 (rd x5_2 6), .int .i64 (rd x5_2 7), .int .i64 (rd x5_2 8), .int .i64 (rd x5_2 9), .int .i64 (rd x5_2 10), .slice none 0 0]) ?_ 10 _ rfl; (with_reducible repeat (first | refine blk_drewN ?_ _ | refine blk_drew ?_ | refine blk_alloc ?_ _)); refine blk_put (cs := #[.int .i64 (rd x5_2 1), .int .i64 (rd x5_2 2), .int .i64 (rd x5_2 3), .int .i64 (rd x5_2 4), .int .i64 (rd x5_2 5), .int .i64 (rd x5_2 6), .int .i64 (rd x5_2 7), .int .i64 (rd x5_2 8), .int .i64 (rd x5_2 9), .int .i64 0, .slice none 0 0]) ?_ 9 _ rfl; (with_reducible repeat (first | refine blk_drewN ?_ _ | refine blk_drew ?_ | refine blk_alloc ?_ _)); refine blk_put (cs := #[.int .i64 (rd x5_2 1), .int .i64 (rd x5_2 2), .int .i64 (rd x5_2 3), .int .i64 (rd x5_2 4), .int .i64 (rd x5_2 5), .int .i64 (rd x5_2 6), .int .i64 (rd x5_2 7), .int .i64 (rd x5_2 8), .int .i64 0, .int .i64 0, .slice none 0 0]) ?_ 8 _ rfl; (with_reducible repeat (first | refine blk_drewN ?_ _ | refine blk_drew ?_ | refine blk_alloc ?_ _)); refine blk_put (cs := #[.int .i64 (rd x5_2 1), .int .i64 (rd x5_2 2), .int .i64 (rd x5_2 3), .int .i64 (rd x5_2 4), .int .i64 (rd x5_2 5), .int .i64 (rd x5_2 6), .int .i64 (rd x5_2 7), .int .i64 0, .int .i64 0, .int .i64 0, .slice none 0 0]) ?_ 7 _ rfl; (with_reducible repeat (first | refine blk_drewN ?_ _ | refine blk_drew ?_ | refine blk_alloc ?_ _)); refine blk_put (cs := #[.int .i64 (rd x5_2 1), .int .i64 (rd x5_2 2), .int .i64 (rd x5_2 3), .int .i64 (rd x5_2 4), .int .i64 (rd x5_2 5), .int .i64 (rd x5_2 6), .int .i64 0, .int .i64 0, .int .i64 0, .int .i64 0, .slice none 0 0]) ?_ 6 _ rfl; (with_reducible repeat (first | refine blk_drewN ?_ _ | refine blk_drew ?_ | refine blk_alloc ?_ _)); refine blk_put (cs := #[.int .i64 (rd x5_2 1), .int .i64 (rd x5_2 2), .int .i64 (rd x5_2 3), .int .i64 (rd x5_2 4), .int .i64 (rd x5_2 5), .int .i64 0, .int .i64 0, .int .i64 0, .int .i64 0, .int .i64 0, .slice none 0 0]) ?_ 5 _ rfl; (with_reducible repeat (first | refine blk_drewN ?_ _ | refine blk_drew ?_ | refine blk_alloc ?_ _)); refine blk_put (cs := #[.int .i64 (rd x5_2 1), .int .i64 (rd x5_2 2), .int .i64 (rd x5_2 3), .int .i64 (rd x5_2 4), .int .i64 0, .int .i64 0, .int .i64 0, .int .i64 0, .int .i64 0, .int .i64 0, .slice none 0 0]) ?_ 4 _ rfl; (with_reducible repeat (first | refine blk_drewN ?_ _ | refine blk_drew ?_ | refine blk_alloc ?_ _)); refine blk_put (cs := #[.int .i64 (rd x5_2 1), .int .i64 (rd x5_2 2), .int .i64 (rd x5_2 3), .int .i64 0, .int .i64 0, .int .i64 0, .int .i64 0, .int .i64 0, .int .i64 0, .int .i64 0, .slice none 0 0]) ?_ 3 _ rfl; (with_reducible repeat (first | refine blk_drewN ?_ _ | refine blk_drew ?_ | refine blk_alloc ?_ _)); refine blk_put (cs := #[.int .i64 (rd x5_2 1), .int .i64 (rd x5_2 2), .int .i64 0, .int .i64 0, .int .i64 0, .int .i64 0, .int .i64 0, .int .i64 0, .int .i64 0, .int .i64 0, .slice none 0 0]) ?_ 2 _ rfl; (with_reducible repeat (first | refine blk_drewN ?_ _ | refine blk_drew ?_ | refine blk_alloc ?_ _)); refine blk_put (cs := #[.int .i64 (rd x5_2 1), .int .i64 0, .int .i64 0, .int .i64 0, .int .i64 0, .int .i64 0, .int .i64 0, .int .i64 0, .int .i64 0, .int .i64 0, .slice none 0 0]) ?_ 1 _ rfl; (with_reducible repeat (first | refine blk_drewN ?_ _ | refine blk_drew ?_ | refine blk_alloc ?_ _)); refine blk_put (cs := #[.int .i64 0, .int .i64 0, .int .i64 0, .int .i64 0, .int .i64 0, .int .i64 0, .int .i64 0, .int .i64 0, .int .i64 0, .int .i64 0, .slice none 0 0]) ?_ 0 _ rfl; (with_reducible repeat (first | refine blk_drewN ?_ _ | refine blk_drew ?_ | refine blk_alloc ?_ _)); exact BK133.out) Try.underlying32 rfl (by kernel_rfl)) rfl ?_
                             exact ⟨_, by first | rfl | (simp [errW_none, errW_some] <;> rfl) | (simp only [← hji14]; first | rfl | (simp [errW_none, errW_some] <;> rfl)) | (simp [*, errW_none, errW_some] <;> rfl), by (with_reducible repeat (first | apply Kd.R_alloc | apply Kd.R_drewN | apply Kd.R_drew)); exact Kd.R_mono (Kd.R_far (p := ⟨gb133, 10, none⟩) (Kd.R_far (p := ⟨gb133, 9, none⟩) (Kd.R_far (p := ⟨gb133, 8, none⟩) (Kd.R_far (p := ⟨gb133, 7, none⟩) (Kd.R_far (p := ⟨gb133, 6, none⟩) (Kd.R_far (p := ⟨gb133, 5, none⟩) (Kd.R_far (p := ⟨gb133, 4, none⟩) (Kd.R_far (p := ⟨gb133, 3, none⟩) (Kd.R_far (p := ⟨gb133, 2, none⟩) (Kd.R_far (p := ⟨gb133, 1, none⟩) (Kd.R_far (p := ⟨gb133, 0, none⟩) (Kd.R_types HO_153010.out BK133.out (by decide)) (fun _ hk => hk.2) (.int .i64 (rd x5_2 1))) (fun _ hk => hk.2) (.int .i64 (rd x5_2 2))) (fun _ hk => hk.2) (.int .i64 (rd x5_2 3))) (fun _ hk => hk.2) (.int .i64 (rd x5_2 4))) (fun _ hk => hk.2) (.int .i64 (rd x5_2 5))) (fun _ hk => hk.2) (.int .i64 (rd x5_2 6))) (fun _ hk => hk.2) (.int .i64 (rd x5_2 7))) (fun _ hk => hk.2) (.int .i64 (rd x5_2 8))) (fun _ hk => hk.2) (.int .i64 (rd x5_2 9))) (fun _ hk => hk.2) (.int .i64 (rd x5_2 10))) (fun _ hk => hk.2) (.slice Ao69 x153010_3.length co69)) (fun _ hk => trivial), by repeat (first | (with_reducible first | exact HB.out | apply below_alloc | apply pw_below_drewN | apply below_drew1 | refine below_set ?_ GE133.out | refine below_set ?_ GE152.out) | exact HB.out)⟩
                            ·replace c67 := Bool.eq_false_iff.mpr c67
                             subst c67
                             have H1 : (some (0, 0, 0, 0, 0, 0, 0, 0, 0, 0, ([] : List Int), 2)) = some (r1, r2, r3, r4, r5, r6, r7, r8, r9, r10, r11, r12) := by rw [if_neg (show ¬ (false = true) by decide)] at H; exact H
                             clear H
                             have H := H1
                             clear H1
                             simp only [Option.some.injEq, Prod.mk.injEq] at H
                             obtain ⟨rfl, rfl, rfl, rfl, rfl, rfl, rfl, rfl, rfl, rfl, rfl, rfl⟩ := H
                             try go_wp2
                             have n0_ := Aside0.mk (Kd.R_drew HO_5.out)
                             have n1_ := Aside0.mk (Kd.R_drew HO_153010.out)
                             have n2_ := Aside0.mk (blk_drew BK133.out)
                             have n3_ := Aside0.mk (blk_drew BK152.out)
                             have n4_ := Aside0.mk (Kd.C_drew HR156.out)
                             have n5_ := Aside0.mk (below_drew1 HB.out)
                             clear HO_5
                             clear HO_153010
                             clear BK133
                             clear BK152
                             clear HR156
                             clear HB
                             have HO_5 := n0_
                             have HO_153010 := n1_
                             have BK133 := n2_
                             have BK152 := n3_
                             have HR156 := n4_
                             have HB := n5_
                             clear n0_ n1_ n2_ n3_ n4_ n5_
                             have p162 : 0 ≤ (11 : Int) := (by omega)
                             have q162 : 11 < (x5_2.length : Int) := of_decide_eq_true (by first | (with_reducible assumption) | assumption)
                             obtain ⟨ad162, e162, hx162_0⟩ := Kd.at_int (Kd.R_reads' HO_5.out).2.2 11 p162 q162
                             obtain rfl : ad142 = ad162 := (by injection e162)
                             (try simp only [show (11 : Int).toNat = 11 from rfl, Nat.reduceMul, Nat.reduceEqDiff, Go.Addr.add, ↓reduceIte] at hx162_0)
                             have qi162 : (11 < x5_2.length) = True := eq_true (by omega)
                             (try rw [show ((11 : Int)).toNat = 11 from rfl] at hx162_0)
                             replace p162 := eq_true p162
                             replace q162 := eq_true q162
                             obtain ⟨Ao75, co75, eo75⟩ := Kd.R_slice HO_153010.out
                             (first | subst eo75 | (injection eo75 with f1_ f2_ f3_; have f4_ := f1_.symm; have f5_ := f3_.symm; clear f1_ f2_ f3_; subst f4_; subst f5_))
                             refine start_ (n := 12) (S := fun w' => w'.cell? ⟨gb152, 0, none⟩ = some (.int .i64 (rd x5_2 1)) ∧ w'.cell? ⟨gb152, 1, none⟩ = some (.int .i64 (rd x5_2 2)) ∧ w'.cell? ⟨gb152, 2, none⟩ = some (.int .i64 (rd x5_2 3)) ∧ w'.cell? ⟨gb152, 3, none⟩ = some (.int .i64 (rd x5_2 4)) ∧ w'.cell? ⟨gb152, 4, none⟩ = some (.int .i64 (rd x5_2 5)) ∧ w'.cell? ⟨gb152, 5, none⟩ = some (.int .i64 (rd x5_2 6)) ∧ w'.cell? ⟨gb152, 6, none⟩ = some (.int .i64 (rd x5_2 7)) ∧ w'.cell? ⟨gb152, 7, none⟩ = some (.int .i64 (rd x5_2 8)) ∧ w'.cell? ⟨gb152, 8, none⟩ = some (.int .i64 (rd x5_2 9)) ∧ w'.cell? ⟨gb152, 9, none⟩ = some (.int .i64 (rd x5_2 10)) ∧ w'.cell? ⟨gb152, 10, none⟩ = some (.slice Ao75 x153010_3.length co75) ∧ w'.cell? ⟨ad142.block, ad142.off + 11, none⟩ = some (.int .i64 (rd x5_2 11))) (ds := []) #[false, false, false, false, false, false, false, false, false, false, false, false] (by kernel_rfl) rfl rfl ⟨(blk_cell BK152.out 0).trans rfl, (blk_cell BK152.out 1).trans rfl, (blk_cell BK152.out 2).trans rfl, (blk_cell BK152.out 3).trans rfl, (blk_cell BK152.out 4).trans rfl, (blk_cell BK152.out 5).trans rfl, (blk_cell BK152.out 6).trans rfl, (blk_cell BK152.out 7).trans rfl, (blk_cell BK152.out 8).trans rfl, (blk_cell BK152.out 9).trans rfl, (blk_cell BK152.out 10).trans rfl, hx162_0⟩ (fun hHeld => ?_); refine with_tabW wire_Take.tab18 wire_Take.bits18 (fun HT_ HW_ => ?_)
                             generalize wr.drew = w74 at HO_5 HO_153010 BK133 BK152 HR156 HB hx162_0 hHeld ⊢
                             refine pure_ (i := 0) (N := some 102) (v := ?_) (a' := ?_) #[true, false, false, false, false, false, false, false, false, false, false, false] rfl rfl (any_of HT_.out (by kernel_rfl)) (fun _ _ _ h => h) (Or.inl ⟨by rfl, ?_⟩) ?_ ?_
                             rotate_left
                             ·intro w'
                              go_simp
                              with_reducible rfl
                             rotate_left
                             ·simp only [Act.put, List.setIfInBounds_toArray, List.set_cons_zero, List.set_cons_succ, i64_w, i32_w]
                              rfl
                             refine pure_ (i := 1) (N := some 103) (v := ?_) (a' := ?_) #[true, true, false, false, false, false, false, false, false, false, false, false] rfl rfl (any_of HT_.out (by kernel_rfl)) (fun _ _ _ h => h) (Or.inl ⟨by rfl, ?_⟩) ?_ ?_
                             rotate_left
                             ·intro w'
                              go_simp
                              with_reducible rfl
                             rotate_left
                             ·simp only [Act.put, List.setIfInBounds_toArray, List.set_cons_zero, List.set_cons_succ, i64_w, i32_w]
                              rfl
                             refine pure_ (i := 3) (N := some 105) (v := ?_) (a' := ?_) #[true, true, false, true, false, false, false, false, false, false, false, false] rfl rfl (any_of HT_.out (by kernel_rfl)) (fun _ _ _ h => h) (Or.inl ⟨by rfl, ?_⟩) ?_ ?_
                             rotate_left
                             ·intro w'
                              go_simp
                              with_reducible rfl
                             rotate_left
                             ·simp only [Act.put, List.setIfInBounds_toArray, List.set_cons_zero, List.set_cons_succ, i64_w, i32_w]
                              rfl
                             refine take_ (i := 2) (N := some 104) (v := ?_) (a' := ?_) #[true, true, true, true, false, false, false, false, false, false, false, false] rfl rfl (take_ofW HT_.out HW_.out (by kernel_rfl)) (fun _ _ _ h => h) (Or.inl ⟨by rfl, ?_⟩) hHeld ?_ ?_
                             rotate_left
                             ·rintro w' ⟨s0, s1, s2, s3, s4, s5, s6, s7, s8, s9, s10, s11⟩
                              go_simp
                              with_reducible rfl
                             rotate_left
                             ·simp only [Act.put, List.setIfInBounds_toArray, List.set_cons_zero, List.set_cons_succ, i64_w, i32_w]
                              rfl
                             refine take_ (i := 4) (N := some 106) (v := ?_) (a' := ?_) #[true, true, true, true, true, false, false, false, false, false, false, false] rfl rfl (take_ofW HT_.out HW_.out (by kernel_rfl)) (fun _ _ _ h => h) (Or.inl ⟨by rfl, ?_⟩) hHeld ?_ ?_
                             rotate_left
                             ·rintro w' ⟨s0, s1, s2, s3, s4, s5, s6, s7, s8, s9, s10, s11⟩
                              go_simp
                              with_reducible rfl
                             rotate_left
                             ·simp only [Act.put, List.setIfInBounds_toArray, List.set_cons_zero, List.set_cons_succ, i64_w, i32_w]
                              rfl
                             refine pure_ (i := 5) (N := some 107) (v := ?_) (a' := ?_) #[true, true, true, true, true, true, false, false, false, false, false, false] rfl rfl (any_of HT_.out (by kernel_rfl)) (fun _ _ _ h => h) (Or.inl ⟨by rfl, ?_⟩) ?_ ?_
                             rotate_left
                             ·intro w'
                              go_simp
                              with_reducible rfl
                             rotate_left
                             ·simp only [Act.put, List.setIfInBounds_toArray, List.set_cons_zero, List.set_cons_succ, i64_w, i32_w]
                              rfl
                             refine pure_ (i := 6) (N := some 108) (v := ?_) (a' := ?_) #[true, true, true, true, true, true, true, false, false, false, false, false] rfl rfl (any_of HT_.out (by kernel_rfl)) (fun _ _ _ h => h) (Or.inl ⟨by rfl, ?_⟩) ?_ ?_
                             rotate_left
                             ·intro w'
                              go_simp
                              with_reducible rfl
                             rotate_left
                             ·simp only [Act.put, List.setIfInBounds_toArray, List.set_cons_zero, List.set_cons_succ, i64_w, i32_w]
                              rfl
                             refine pure_ (i := 7) (N := some 109) (v := ?_) (a' := ?_) #[true, true, true, true, true, true, true, true, false, false, false, false] rfl rfl (any_of HT_.out (by kernel_rfl)) (fun _ _ _ h => h) (Or.inl ⟨by rfl, ?_⟩) ?_ ?_
                             rotate_left
                             ·intro w'
                              go_simp
                              with_reducible rfl
                             rotate_left
                             ·simp only [Act.put, List.setIfInBounds_toArray, List.set_cons_zero, List.set_cons_succ, i64_w, i32_w]
                              rfl
                             refine take_ (i := 8) (N := some 110) (v := ?_) (a' := ?_) #[true, true, true, true, true, true, true, true, true, false, false, false] rfl rfl (take_ofW HT_.out HW_.out (by kernel_rfl)) (fun _ _ _ h => h) (Or.inl ⟨by rfl, ?_⟩) hHeld ?_ ?_
                             rotate_left
                             ·rintro w' ⟨s0, s1, s2, s3, s4, s5, s6, s7, s8, s9, s10, s11⟩
                              go_simp
                              with_reducible rfl
                             rotate_left
                             ·simp only [Act.put, List.setIfInBounds_toArray, List.set_cons_zero, List.set_cons_succ, i64_w, i32_w]
                              rfl
                             refine one_ (i := 9) (N := some 111) #[true, true, true, true, true, true, true, true, true, true, false, false] rfl rfl (one_of HT_.out (by kernel_rfl)) (by decide) (fun K hK => ?_)
                             refine goes_ Try.func21 (by kernel_rfl) rfl #[.agg #[.int .i64 (rd x5_2 1), .int .i64 (rd x5_2 2), .int .i64 (rd x5_2 3), .int .i64 (rd x5_2 4), .int .i64 (rd x5_2 5), .int .i64 (rd x5_2 6), .int .i64 (rd x5_2 7), .int .i64 (rd x5_2 8), .int .i64 (rd x5_2 9), .int .i64 (rd x5_2 10), .slice Ao75 x153010_3.length co75]] (by rfl) rfl rfl (by (try simp only [List.map_toArray, List.map_cons, List.map_nil]); first | done | rfl | (simp only [ByteArray.size_append, Int.natCast_add, List.length_drop, List.length_take]; first | done | rfl) | (simp only [List.length_drop, List.length_take]; rfl)) ?_
                             with_reducible refine (wire_Right.calls k3 (rd x5_2 1) (rd x5_2 2) (rd x5_2 3) (rd x5_2 4) (rd x5_2 5) (rd x5_2 6) (rd x5_2 7) (rd x5_2 8) (rd x5_2 9) (rd x5_2 10) _ _ x153010_3 false _ ?side1 ?side2 A66.out).mono ?_
                             (case side1 => repeat (first | exact (Kd.R_reads' HO_153010.out).2.2 | (with_reducible refine Kd.C_alloc ?_ _) | (with_reducible refine Kd.C_drewN ?_ _) | (with_reducible refine Kd.C_drew ?_)))
                             (case side2 => exact (Kd.R_reads' HO_153010.out).2.1)
                             rintro e w76 ⟨rfl, hb⟩
                             have HS11_ := (hb.cell (World.block_lt_of_cell? _ _ (hHeld.2.2.2.2.2.2.2.2.2.2.2))).trans (hHeld.2.2.2.2.2.2.2.2.2.2.2)
                             refine ⟨_, rfl, ?_⟩
                             have n0_ := Aside0.mk (Kd.R_below (by (with_reducible repeat (first | apply Kd.R_alloc | apply Kd.R_drewN | apply Kd.R_drew)); exact HO_5.out) hb)
                             have n1_ := Aside0.mk (Kd.R_below (by (with_reducible repeat (first | apply Kd.R_alloc | apply Kd.R_drewN | apply Kd.R_drew)); exact HO_153010.out) hb)
                             have n2_ := Aside0.mk (blk_below (g := gb133) (o := .cells #[.int .i64 0, .int .i64 0, .int .i64 0, .int .i64 0, .int .i64 0, .int .i64 0, .int .i64 0, .int .i64 0, .int .i64 0, .int .i64 0, .slice none 0 0] 32 (0, 0)) (by (with_reducible repeat (first | refine blk_drewN ?_ _ | refine blk_drew ?_ | refine blk_alloc ?_ _)); exact BK133.out) hb)
                             have n3_ := Aside0.mk (blk_below (g := gb152) (o := .cells #[.int .i64 (rd x5_2 1), .int .i64 (rd x5_2 2), .int .i64 (rd x5_2 3), .int .i64 (rd x5_2 4), .int .i64 (rd x5_2 5), .int .i64 (rd x5_2 6), .int .i64 (rd x5_2 7), .int .i64 (rd x5_2 8), .int .i64 (rd x5_2 9), .int .i64 (rd x5_2 10), .slice Ao75 x153010_3.length co75] 32 (0, 0)) (by (with_reducible repeat (first | refine blk_drewN ?_ _ | refine blk_drew ?_ | refine blk_alloc ?_ _)); exact BK152.out) hb)
                             have n4_ := Aside0.mk (Kd.C_below (by repeat (first | (with_reducible exact HR156.out) | (with_reducible refine Kd.C_alloc ?_ _) | (with_reducible refine Kd.C_drewN ?_ _) | (with_reducible refine Kd.C_drew ?_) | exact HR156.out)) hb)
                             have n5_ := Aside0.mk (below_step (by repeat (first | (with_reducible first | exact HB.out | apply below_alloc | apply pw_below_drewN | apply below_drew1 | refine below_set ?_ GE133.out | refine below_set ?_ GE152.out) | exact HB.out)) hb)
                             clear HO_5
                             clear HO_153010
                             clear BK133
                             clear BK152
                             clear HR156
                             clear HB
                             have HO_5 := n0_
                             have HO_153010 := n1_
                             have BK133 := n2_
                             have BK152 := n3_
                             have HR156 := n4_
                             have HB := n5_
                             clear n0_ n1_ n2_ n3_ n4_ n5_
                             (try clear hb)
                             (try clear hb2)
                             (try clear hk)
                             (try clear hi)
                             refine hK.out _ _ ⟨(blk_cell BK152.out 0).trans rfl, (blk_cell BK152.out 1).trans rfl, (blk_cell BK152.out 2).trans rfl, (blk_cell BK152.out 3).trans rfl, (blk_cell BK152.out 4).trans rfl, (blk_cell BK152.out 5).trans rfl, (blk_cell BK152.out 6).trans rfl, (blk_cell BK152.out 7).trans rfl, (blk_cell BK152.out 8).trans rfl, (blk_cell BK152.out 9).trans rfl, (blk_cell BK152.out 10).trans rfl, HS11_⟩ (fun hHeld => ?_)
                             clear hK K
                             refine norm_ (a' := ?_) ?_ ?_
                             rotate_left
                             ·show Act.put _ (some 111) _ = _
                              simp only [Act.put, List.setIfInBounds_toArray, List.set_cons_zero, List.set_cons_succ, i64_w, i32_w]
                              rfl
                             refine pure_ (i := 10) (N := some 112) (v := ?_) (a' := ?_) #[true, true, true, true, true, true, true, true, true, true, true, false] rfl rfl (any_of HT_.out (by kernel_rfl)) (fun _ _ _ h => h) (Or.inl ⟨by rfl, ?_⟩) ?_ ?_
                             rotate_left
                             ·intro w'
                              go_simp
                              with_reducible rfl
                             rotate_left
                             ·simp only [Act.put, List.setIfInBounds_toArray, List.set_cons_zero, List.set_cons_succ, i64_w, i32_w]
                              rfl
                             refine pure_ (i := 11) (N := some 113) (v := ?_) (a' := ?_) #[true, true, true, true, true, true, true, true, true, true, true, true] rfl rfl (any_of HT_.out (by kernel_rfl)) (fun _ _ _ h => h) (Or.inl ⟨by rfl, ?_⟩) ?_ ?_
                             rotate_left
                             ·intro w'
                              go_simp
                              with_reducible rfl
                             rotate_left
                             ·simp only [Act.put, List.setIfInBounds_toArray, List.set_cons_zero, List.set_cons_succ, i64_w, i32_w]
                              rfl
                             refine done_ (done_of HT_.out (by kernel_rfl)) ?_
                             have hnb77 := NB133_152.out
                             have hnc77 := NB152_133.out
                             have hcz78_0 : w76.cell? ⟨gb133, 0, none⟩ = some (.int .i64 0) := (blk_cell BK133.out 0).trans rfl
                             have hcz78_1 : w76.cell? ⟨gb133, 1, none⟩ = some (.int .i64 0) := (blk_cell BK133.out 1).trans rfl
                             have hcz78_2 : w76.cell? ⟨gb133, 2, none⟩ = some (.int .i64 0) := (blk_cell BK133.out 2).trans rfl
                             have hcz78_3 : w76.cell? ⟨gb133, 3, none⟩ = some (.int .i64 0) := (blk_cell BK133.out 3).trans rfl
                             have hcz78_4 : w76.cell? ⟨gb133, 4, none⟩ = some (.int .i64 0) := (blk_cell BK133.out 4).trans rfl
                             have hcz78_5 : w76.cell? ⟨gb133, 5, none⟩ = some (.int .i64 0) := (blk_cell BK133.out 5).trans rfl
                             have hcz78_6 : w76.cell? ⟨gb133, 6, none⟩ = some (.int .i64 0) := (blk_cell BK133.out 6).trans rfl
                             have hcz78_7 : w76.cell? ⟨gb133, 7, none⟩ = some (.int .i64 0) := (blk_cell BK133.out 7).trans rfl
                             have hcz78_8 : w76.cell? ⟨gb133, 8, none⟩ = some (.int .i64 0) := (blk_cell BK133.out 8).trans rfl
                             have hcz78_9 : w76.cell? ⟨gb133, 9, none⟩ = some (.int .i64 0) := (blk_cell BK133.out 9).trans rfl
                             have hcz78_10 : w76.cell? ⟨gb133, 10, none⟩ = some (.slice none 0 0) := (blk_cell BK133.out 10).trans rfl
                             have hfz78_0 := blk_frozen BK133.out 0
                             have hfz78_1 := blk_frozen BK133.out 1
                             have hfz78_2 := blk_frozen BK133.out 2
                             have hfz78_3 := blk_frozen BK133.out 3
                             have hfz78_4 := blk_frozen BK133.out 4
                             have hfz78_5 := blk_frozen BK133.out 5
                             have hfz78_6 := blk_frozen BK133.out 6
                             have hfz78_7 := blk_frozen BK133.out 7
                             have hfz78_8 := blk_frozen BK133.out 8
                             have hfz78_9 := blk_frozen BK133.out 9
                             have hfz78_10 := blk_frozen BK133.out 10
                             try go_wp2
                             refine bodyPost_ret (results_ct rfl _ _ gb133 32 #[.int .i64 0, .int .i64 0, .int .i64 0, .int .i64 0, .int .i64 0, .int .i64 0, .int .i64 0, .int .i64 0, .int .i64 0, .int .i64 0, .slice none 0 0] (0, 0) _ rfl (by (with_reducible repeat (first | refine blk_drewN ?_ _ | refine blk_drew ?_ | refine blk_alloc ?_ _)); refine blk_put (cs := #[.int .i64 0, .int .i64 0, .int .i64 0, .int .i64 0, .int .i64 0, .int .i64 0, .int .i64 0, .int .i64 0, .int .i64 0, .int .i64 0, .slice none 0 0]) ?_ 10 _ rfl; (with_reducible repeat (first | refine blk_drewN ?_ _ | refine blk_drew ?_ | refine blk_alloc ?_ _)); refine blk_put (cs := #[.int .i64 0, .int .i64 0, .int .i64 0, .int .i64 0, .int .i64 0, .int .i64 0, .int .i64 0, .int .i64 0, .int .i64 0, .int .i64 0, .slice none 0 0]) ?_ 9 _ rfl; (with_reducible repeat (first | refine blk_drewN ?_ _ | refine blk_drew ?_ | refine blk_alloc ?_ _)); refine blk_put (cs := #[.int .i64 0, .int .i64 0, .int .i64 0, .int .i64 0, .int .i64 0, .int .i64 0, .int .i64 0, .int .i64 0, .int .i64 0, .int .i64 0, .slice none 0 0]) ?_ 8 _ rfl; (with_reducible repeat (first | refine blk_drewN ?_ _ | refine blk_drew ?_ | refine blk_alloc ?_ _)); refine blk_put (cs := #[.int .i64 0, .int .i64 0, .int .i64 0, .int .i64 0, .int .i64 0, .int .i64 0, .int .i64 0, .int .i64 0, .int .i64 0, .int .i64 0, .slice none 0 0]) ?_ 7 _ rfl; (with_reducible repeat (first | refine blk_drewN ?_ _ | refine blk_drew ?_ | refine blk_alloc ?_ _)); refine blk_put (cs := #[.int .i64 0, .int .i64 0, .int .i64 0, .int .i64 0, .int .i64 0, .int .i64 0, .int .i64 0, .int .i64 0, .int .i64 0, .int .i64 0, .slice none 0 0]) ?_ 6 _ rfl; (with_reducible repeat (first | refine blk_drewN ?_ _ | refine blk_drew ?_ | refine blk_alloc ?_ _)); refine blk_put (cs := #[.int .i64 0, .int .i64 0, .int .i64 0, .int .i64 0, .int .i64 0, .int .i64 0, .int .i64 0, .int .i64 0, .int .i64 0, .int .i64 0, .slice none 0 0]) ?_ 5 _ rfl; (with_reducible repeat (first | refine blk_drewN ?_ _ | refine blk_drew ?_ | refine blk_alloc ?_ _)); refine blk_put (cs := #[.int .i64 0, .int .i64 0, .int .i64 0, .int .i64 0, .int .i64 0, .int .i64 0, .int .i64 0, .int .i64 0, .int .i64 0, .int .i64 0, .slice none 0 0]) ?_ 4 _ rfl; (with_reducible repeat (first | refine blk_drewN ?_ _ | refine blk_drew ?_ | refine blk_alloc ?_ _)); refine blk_put (cs := #[.int .i64 0, .int .i64 0, .int .i64 0, .int .i64 0, .int .i64 0, .int .i64 0, .int .i64 0, .int .i64 0, .int .i64 0, .int .i64 0, .slice none 0 0]) ?_ 3 _ rfl; (with_reducible repeat (first | refine blk_drewN ?_ _ | refine blk_drew ?_ | refine blk_alloc ?_ _)); refine blk_put (cs := #[.int .i64 0, .int .i64 0, .int .i64 0, .int .i64 0, .int .i64 0, .int .i64 0, .int .i64 0, .int .i64 0, .int .i64 0, .int .i64 0, .slice none 0 0]) ?_ 2 _ rfl; (with_reducible repeat (first | refine blk_drewN ?_ _ | refine blk_drew ?_ | refine blk_alloc ?_ _)); refine blk_put (cs := #[.int .i64 0, .int .i64 0, .int .i64 0, .int .i64 0, .int .i64 0, .int .i64 0, .int .i64 0, .int .i64 0, .int .i64 0, .int .i64 0, .slice none 0 0]) ?_ 1 _ rfl; (with_reducible repeat (first | refine blk_drewN ?_ _ | refine blk_drew ?_ | refine blk_alloc ?_ _)); refine blk_put (cs := #[.int .i64 0, .int .i64 0, .int .i64 0, .int .i64 0, .int .i64 0, .int .i64 0, .int .i64 0, .int .i64 0, .int .i64 0, .int .i64 0, .slice none 0 0]) ?_ 0 _ rfl; (with_reducible repeat (first | refine blk_drewN ?_ _ | refine blk_drew ?_ | refine blk_alloc ?_ _)); exact BK133.out) Try.underlying32 rfl (by kernel_rfl)) rfl ?_
                             exact ⟨_, by first | rfl | (simp [errW_none, errW_some] <;> rfl) | (simp only [← hji14]; first | rfl | (simp [errW_none, errW_some] <;> rfl)) | (simp [*, errW_none, errW_some] <;> rfl), by first | exact Kd.R_nil _ _ _ _ _ | exact Kd.N_nil _ _ _ _ _ | exact Kd.V_nil _ _ _ _ _ | exact Kd.Q_nil _ _ _ _ _ | exact Kd.S_nil _ _ _ _ _, by repeat (first | (with_reducible first | exact HB.out | apply below_alloc | apply pw_below_drewN | apply below_drew1 | refine below_set ?_ GE133.out | refine below_set ?_ GE152.out) | exact HB.out)⟩
                           ·rw [if_neg c65] at H
                            have c65b0 : ((rd x5_2 11) == (x153010_3.length : Int)) = false := beq_eq_false_iff_ne.mpr c65
                            have c65b0l := c65b0
                            (try simp only [hl5_2] at c65b0l)
                            have c65b1 : ((rd x5_2 11) != (x153010_3.length : Int)) = true := bne_iff_ne.mpr c65
                            have c65b1l := c65b1
                            (try simp only [hl5_2] at c65b1l)
                            simp only [Option.some.injEq, Prod.mk.injEq] at H
                            obtain ⟨rfl, rfl, rfl, rfl, rfl, rfl, rfl, rfl, rfl, rfl, rfl, rfl⟩ := H
                            try go_wp2
                            have n0_ := Aside0.mk (Kd.R_drew HO_5.out)
                            have n1_ := Aside0.mk (Kd.R_drew HO_153010.out)
                            have n2_ := Aside0.mk (blk_drew BK133.out)
                            have n3_ := Aside0.mk (blk_drew BK152.out)
                            have n4_ := Aside0.mk (Kd.C_drew HR156.out)
                            have n5_ := Aside0.mk (below_drew1 HB.out)
                            clear HO_5
                            clear HO_153010
                            clear BK133
                            clear BK152
                            clear HR156
                            clear HB
                            have HO_5 := n0_
                            have HO_153010 := n1_
                            have BK133 := n2_
                            have BK152 := n3_
                            have HR156 := n4_
                            have HB := n5_
                            clear n0_ n1_ n2_ n3_ n4_ n5_
                            have p162 : 0 ≤ (11 : Int) := (by omega)
                            have q162 : 11 < (x5_2.length : Int) := of_decide_eq_true (by first | (with_reducible assumption) | assumption)
                            obtain ⟨ad162, e162, hx162_0⟩ := Kd.at_int (Kd.R_reads' HO_5.out).2.2 11 p162 q162
                            obtain rfl : ad142 = ad162 := (by injection e162)
                            (try simp only [show (11 : Int).toNat = 11 from rfl, Nat.reduceMul, Nat.reduceEqDiff, Go.Addr.add, ↓reduceIte] at hx162_0)
                            have qi162 : (11 < x5_2.length) = True := eq_true (by omega)
                            (try rw [show ((11 : Int)).toNat = 11 from rfl] at hx162_0)
                            replace p162 := eq_true p162
                            replace q162 := eq_true q162
                            obtain ⟨Ao80, co80, eo80⟩ := Kd.R_slice HO_153010.out
                            (first | subst eo80 | (injection eo80 with f1_ f2_ f3_; have f4_ := f1_.symm; have f5_ := f3_.symm; clear f1_ f2_ f3_; subst f4_; subst f5_))
                            refine start_ (n := 12) (S := fun w' => w'.cell? ⟨gb152, 0, none⟩ = some (.int .i64 (rd x5_2 1)) ∧ w'.cell? ⟨gb152, 1, none⟩ = some (.int .i64 (rd x5_2 2)) ∧ w'.cell? ⟨gb152, 2, none⟩ = some (.int .i64 (rd x5_2 3)) ∧ w'.cell? ⟨gb152, 3, none⟩ = some (.int .i64 (rd x5_2 4)) ∧ w'.cell? ⟨gb152, 4, none⟩ = some (.int .i64 (rd x5_2 5)) ∧ w'.cell? ⟨gb152, 5, none⟩ = some (.int .i64 (rd x5_2 6)) ∧ w'.cell? ⟨gb152, 6, none⟩ = some (.int .i64 (rd x5_2 7)) ∧ w'.cell? ⟨gb152, 7, none⟩ = some (.int .i64 (rd x5_2 8)) ∧ w'.cell? ⟨gb152, 8, none⟩ = some (.int .i64 (rd x5_2 9)) ∧ w'.cell? ⟨gb152, 9, none⟩ = some (.int .i64 (rd x5_2 10)) ∧ w'.cell? ⟨gb152, 10, none⟩ = some (.slice Ao80 x153010_3.length co80) ∧ w'.cell? ⟨ad142.block, ad142.off + 11, none⟩ = some (.int .i64 (rd x5_2 11))) (ds := []) #[false, false, false, false, false, false, false, false, false, false, false, false] (by kernel_rfl) rfl rfl ⟨(blk_cell BK152.out 0).trans rfl, (blk_cell BK152.out 1).trans rfl, (blk_cell BK152.out 2).trans rfl, (blk_cell BK152.out 3).trans rfl, (blk_cell BK152.out 4).trans rfl, (blk_cell BK152.out 5).trans rfl, (blk_cell BK152.out 6).trans rfl, (blk_cell BK152.out 7).trans rfl, (blk_cell BK152.out 8).trans rfl, (blk_cell BK152.out 9).trans rfl, (blk_cell BK152.out 10).trans rfl, hx162_0⟩ (fun hHeld => ?_); refine with_tabW wire_Take.tab18 wire_Take.bits18 (fun HT_ HW_ => ?_)
                            generalize wr.drew = w79 at HO_5 HO_153010 BK133 BK152 HR156 HB hx162_0 hHeld ⊢
                            refine pure_ (i := 0) (N := some 102) (v := ?_) (a' := ?_) #[true, false, false, false, false, false, false, false, false, false, false, false] rfl rfl (any_of HT_.out (by kernel_rfl)) (fun _ _ _ h => h) (Or.inl ⟨by rfl, ?_⟩) ?_ ?_
                            rotate_left
                            ·intro w'
                             go_simp
                             with_reducible rfl
                            rotate_left
                            ·simp only [Act.put, List.setIfInBounds_toArray, List.set_cons_zero, List.set_cons_succ, i64_w, i32_w]
                             rfl
                            refine pure_ (i := 1) (N := some 103) (v := ?_) (a' := ?_) #[true, true, false, false, false, false, false, false, false, false, false, false] rfl rfl (any_of HT_.out (by kernel_rfl)) (fun _ _ _ h => h) (Or.inl ⟨by rfl, ?_⟩) ?_ ?_
                            rotate_left
                            ·intro w'
                             go_simp
                             with_reducible rfl
                            rotate_left
                            ·simp only [Act.put, List.setIfInBounds_toArray, List.set_cons_zero, List.set_cons_succ, i64_w, i32_w]
                             rfl
                            refine pure_ (i := 3) (N := some 105) (v := ?_) (a' := ?_) #[true, true, false, true, false, false, false, false, false, false, false, false] rfl rfl (any_of HT_.out (by kernel_rfl)) (fun _ _ _ h => h) (Or.inl ⟨by rfl, ?_⟩) ?_ ?_
                            rotate_left
                            ·intro w'
                             go_simp
                             with_reducible rfl
                            rotate_left
                            ·simp only [Act.put, List.setIfInBounds_toArray, List.set_cons_zero, List.set_cons_succ, i64_w, i32_w]
                             rfl
                            refine take_ (i := 2) (N := some 104) (v := ?_) (a' := ?_) #[true, true, true, true, false, false, false, false, false, false, false, false] rfl rfl (take_ofW HT_.out HW_.out (by kernel_rfl)) (fun _ _ _ h => h) (Or.inl ⟨by rfl, ?_⟩) hHeld ?_ ?_
                            rotate_left
                            ·rintro w' ⟨s0, s1, s2, s3, s4, s5, s6, s7, s8, s9, s10, s11⟩
                             go_simp
                             with_reducible rfl
                            rotate_left
                            ·simp only [Act.put, List.setIfInBounds_toArray, List.set_cons_zero, List.set_cons_succ, i64_w, i32_w]
                             rfl
                            refine take_ (i := 4) (N := some 106) (v := ?_) (a' := ?_) #[true, true, true, true, true, false, false, false, false, false, false, false] rfl rfl (take_ofW HT_.out HW_.out (by kernel_rfl)) (fun _ _ _ h => h) (Or.inl ⟨by rfl, ?_⟩) hHeld ?_ ?_
                            rotate_left
                            ·rintro w' ⟨s0, s1, s2, s3, s4, s5, s6, s7, s8, s9, s10, s11⟩
                             go_simp
                             with_reducible rfl
                            rotate_left
                            ·simp only [Act.put, List.setIfInBounds_toArray, List.set_cons_zero, List.set_cons_succ, i64_w, i32_w]
                             rfl
                            refine pure_ (i := 5) (N := some 107) (v := ?_) (a' := ?_) #[true, true, true, true, true, true, false, false, false, false, false, false] rfl rfl (any_of HT_.out (by kernel_rfl)) (fun _ _ _ h => h) (Or.inl ⟨by rfl, ?_⟩) ?_ ?_
                            rotate_left
                            ·intro w'
                             go_simp
                             with_reducible rfl
                            rotate_left
                            ·simp only [Act.put, List.setIfInBounds_toArray, List.set_cons_zero, List.set_cons_succ, i64_w, i32_w]
                             rfl
                            refine pure_ (i := 6) (N := some 108) (v := ?_) (a' := ?_) #[true, true, true, true, true, true, true, false, false, false, false, false] rfl rfl (any_of HT_.out (by kernel_rfl)) (fun _ _ _ h => h) (Or.inl ⟨by rfl, ?_⟩) ?_ ?_
                            rotate_left
                            ·intro w'
                             go_simp
                             with_reducible rfl
                            rotate_left
                            ·simp only [Act.put, List.setIfInBounds_toArray, List.set_cons_zero, List.set_cons_succ, i64_w, i32_w]
                             rfl
                            refine pure_ (i := 7) (N := some 109) (v := ?_) (a' := ?_) #[true, true, true, true, true, true, true, true, false, false, false, false] rfl rfl (any_of HT_.out (by kernel_rfl)) (fun _ _ _ h => h) (Or.inl ⟨by rfl, ?_⟩) ?_ ?_
                            rotate_left
                            ·intro w'
                             go_simp
                             with_reducible rfl
                            rotate_left
                            ·simp only [Act.put, List.setIfInBounds_toArray, List.set_cons_zero, List.set_cons_succ, i64_w, i32_w]
                             rfl
                            refine pure_ (i := 8) (N := some 110) (v := undef) (a' := ?_) #[true, true, true, true, true, true, true, true, true, false, false, false] rfl rfl (any_of HT_.out (by kernel_rfl)) (fun _ _ _ h => h) (Or.inr ⟨by rfl, rfl⟩) ?_ ?_
                            rotate_left
                            ·simp only [Act.put, List.setIfInBounds_toArray, List.set_cons_zero, List.set_cons_succ, i64_w, i32_w]
                             rfl
                            refine pure_ (i := 9) (N := some 111) (v := undef) (a' := ?_) #[true, true, true, true, true, true, true, true, true, true, false, false] rfl rfl (any_of HT_.out (by kernel_rfl)) (fun _ _ _ h => h) (Or.inr ⟨by rfl, rfl⟩) ?_ ?_
                            rotate_left
                            ·simp only [Act.put, List.setIfInBounds_toArray, List.set_cons_zero, List.set_cons_succ, i64_w, i32_w]
                             rfl
                            refine pure_ (i := 10) (N := some 112) (v := undef) (a' := ?_) #[true, true, true, true, true, true, true, true, true, true, true, false] rfl rfl (any_of HT_.out (by kernel_rfl)) (fun _ _ _ h => h) (Or.inr ⟨by rfl, rfl⟩) ?_ ?_
                            rotate_left
                            ·simp only [Act.put, List.setIfInBounds_toArray, List.set_cons_zero, List.set_cons_succ, i64_w, i32_w]
                             rfl
                            refine pure_ (i := 11) (N := some 113) (v := ?_) (a' := ?_) #[true, true, true, true, true, true, true, true, true, true, true, true] rfl rfl (any_of HT_.out (by kernel_rfl)) (fun _ _ _ h => h) (Or.inl ⟨by rfl, ?_⟩) ?_ ?_
                            rotate_left
                            ·intro w'
                             go_simp
                             with_reducible rfl
                            rotate_left
                            ·simp only [Act.put, List.setIfInBounds_toArray, List.set_cons_zero, List.set_cons_succ, i64_w, i32_w]
                             rfl
                            refine done_ (done_of HT_.out (by kernel_rfl)) ?_
                            have hnb81 := NB133_152.out
                            have hnc81 := NB152_133.out
                            have hcz82_0 : w79.cell? ⟨gb133, 0, none⟩ = some (.int .i64 0) := (blk_cell BK133.out 0).trans rfl
                            have hcz82_1 : w79.cell? ⟨gb133, 1, none⟩ = some (.int .i64 0) := (blk_cell BK133.out 1).trans rfl
                            have hcz82_2 : w79.cell? ⟨gb133, 2, none⟩ = some (.int .i64 0) := (blk_cell BK133.out 2).trans rfl
                            have hcz82_3 : w79.cell? ⟨gb133, 3, none⟩ = some (.int .i64 0) := (blk_cell BK133.out 3).trans rfl
                            have hcz82_4 : w79.cell? ⟨gb133, 4, none⟩ = some (.int .i64 0) := (blk_cell BK133.out 4).trans rfl
                            have hcz82_5 : w79.cell? ⟨gb133, 5, none⟩ = some (.int .i64 0) := (blk_cell BK133.out 5).trans rfl
                            have hcz82_6 : w79.cell? ⟨gb133, 6, none⟩ = some (.int .i64 0) := (blk_cell BK133.out 6).trans rfl
                            have hcz82_7 : w79.cell? ⟨gb133, 7, none⟩ = some (.int .i64 0) := (blk_cell BK133.out 7).trans rfl
                            have hcz82_8 : w79.cell? ⟨gb133, 8, none⟩ = some (.int .i64 0) := (blk_cell BK133.out 8).trans rfl
                            have hcz82_9 : w79.cell? ⟨gb133, 9, none⟩ = some (.int .i64 0) := (blk_cell BK133.out 9).trans rfl
                            have hcz82_10 : w79.cell? ⟨gb133, 10, none⟩ = some (.slice none 0 0) := (blk_cell BK133.out 10).trans rfl
                            have hfz82_0 := blk_frozen BK133.out 0
                            have hfz82_1 := blk_frozen BK133.out 1
                            have hfz82_2 := blk_frozen BK133.out 2
                            have hfz82_3 := blk_frozen BK133.out 3
                            have hfz82_4 := blk_frozen BK133.out 4
                            have hfz82_5 := blk_frozen BK133.out 5
                            have hfz82_6 := blk_frozen BK133.out 6
                            have hfz82_7 := blk_frozen BK133.out 7
                            have hfz82_8 := blk_frozen BK133.out 8
                            have hfz82_9 := blk_frozen BK133.out 9
                            have hfz82_10 := blk_frozen BK133.out 10
                            try go_wp2
                            refine bodyPost_ret (results_ct rfl _ _ gb133 32 #[.int .i64 0, .int .i64 0, .int .i64 0, .int .i64 0, .int .i64 0, .int .i64 0, .int .i64 0, .int .i64 0, .int .i64 0, .int .i64 0, .slice none 0 0] (0, 0) _ rfl (by (with_reducible repeat (first | refine blk_drewN ?_ _ | refine blk_drew ?_ | refine blk_alloc ?_ _)); refine blk_put (cs := #[.int .i64 0, .int .i64 0, .int .i64 0, .int .i64 0, .int .i64 0, .int .i64 0, .int .i64 0, .int .i64 0, .int .i64 0, .int .i64 0, .slice none 0 0]) ?_ 10 _ rfl; (with_reducible repeat (first | refine blk_drewN ?_ _ | refine blk_drew ?_ | refine blk_alloc ?_ _)); refine blk_put (cs := #[.int .i64 0, .int .i64 0, .int .i64 0, .int .i64 0, .int .i64 0, .int .i64 0, .int .i64 0, .int .i64 0, .int .i64 0, .int .i64 0, .slice none 0 0]) ?_ 9 _ rfl; (with_reducible repeat (first | refine blk_drewN ?_ _ | refine blk_drew ?_ | refine blk_alloc ?_ _)); refine blk_put (cs := #[.int .i64 0, .int .i64 0, .int .i64 0, .int .i64 0, .int .i64 0, .int .i64 0, .int .i64 0, .int .i64 0, .int .i64 0, .int .i64 0, .slice none 0 0]) ?_ 8 _ rfl; (with_reducible repeat (first | refine blk_drewN ?_ _ | refine blk_drew ?_ | refine blk_alloc ?_ _)); refine blk_put (cs := #[.int .i64 0, .int .i64 0, .int .i64 0, .int .i64 0, .int .i64 0, .int .i64 0, .int .i64 0, .int .i64 0, .int .i64 0, .int .i64 0, .slice none 0 0]) ?_ 7 _ rfl; (with_reducible repeat (first | refine blk_drewN ?_ _ | refine blk_drew ?_ | refine blk_alloc ?_ _)); refine blk_put (cs := #[.int .i64 0, .int .i64 0, .int .i64 0, .int .i64 0, .int .i64 0, .int .i64 0, .int .i64 0, .int .i64 0, .int .i64 0, .int .i64 0, .slice none 0 0]) ?_ 6 _ rfl; (with_reducible repeat (first | refine blk_drewN ?_ _ | refine blk_drew ?_ | refine blk_alloc ?_ _)); refine blk_put (cs := #[.int .i64 0, .int .i64 0, .int .i64 0, .int .i64 0, .int .i64 0, .int .i64 0, .int .i64 0, .int .i64 0, .int .i64 0, .int .i64 0, .slice none 0 0]) ?_ 5 _ rfl; (with_reducible repeat (first | refine blk_drewN ?_ _ | refine blk_drew ?_ | refine blk_alloc ?_ _)); refine blk_put (cs := #[.int .i64 0, .int .i64 0, .int .i64 0, .int .i64 0, .int .i64 0, .int .i64 0, .int .i64 0, .int .i64 0, .int .i64 0, .int .i64 0, .slice none 0 0]) ?_ 4 _ rfl; (with_reducible repeat (first | refine blk_drewN ?_ _ | refine blk_drew ?_ | refine blk_alloc ?_ _)); refine blk_put (cs := #[.int .i64 0, .int .i64 0, .int .i64 0, .int .i64 0, .int .i64 0, .int .i64 0, .int .i64 0, .int .i64 0, .int .i64 0, .int .i64 0, .slice none 0 0]) ?_ 3 _ rfl; (with_reducible repeat (first | refine blk_drewN ?_ _ | refine blk_drew ?_ | refine blk_alloc ?_ _)); refine blk_put (cs := #[.int .i64 0, .int .i64 0, .int .i64 0, .int .i64 0, .int .i64 0, .int .i64 0, .int .i64 0, .int .i64 0, .int .i64 0, .int .i64 0, .slice none 0 0]) ?_ 2 _ rfl; (with_reducible repeat (first | refine blk_drewN ?_ _ | refine blk_drew ?_ | refine blk_alloc ?_ _)); refine blk_put (cs := #[.int .i64 0, .int .i64 0, .int .i64 0, .int .i64 0, .int .i64 0, .int .i64 0, .int .i64 0, .int .i64 0, .int .i64 0, .int .i64 0, .slice none 0 0]) ?_ 1 _ rfl; (with_reducible repeat (first | refine blk_drewN ?_ _ | refine blk_drew ?_ | refine blk_alloc ?_ _)); refine blk_put (cs := #[.int .i64 0, .int .i64 0, .int .i64 0, .int .i64 0, .int .i64 0, .int .i64 0, .int .i64 0, .int .i64 0, .int .i64 0, .int .i64 0, .slice none 0 0]) ?_ 0 _ rfl; (with_reducible repeat (first | refine blk_drewN ?_ _ | refine blk_drew ?_ | refine blk_alloc ?_ _)); exact BK133.out) Try.underlying32 rfl (by kernel_rfl)) rfl ?_
                            exact ⟨_, by first | rfl | (simp [errW_none, errW_some] <;> rfl) | (simp only [← hji14]; first | rfl | (simp [errW_none, errW_some] <;> rfl)) | (simp [*, errW_none, errW_some] <;> rfl), by first | exact Kd.R_nil _ _ _ _ _ | exact Kd.N_nil _ _ _ _ _ | exact Kd.V_nil _ _ _ _ _ | exact Kd.Q_nil _ _ _ _ _ | exact Kd.S_nil _ _ _ _ _, by repeat (first | (with_reducible first | exact HB.out | apply below_alloc | apply pw_below_drewN | apply below_drew1 | refine below_set ?_ GE133.out | refine below_set ?_ GE152.out) | exact HB.out)⟩
                          ·rw [if_neg c64] at H
                           exact absurd H (by simp)
                      ·rw [if_neg c39] at H
                       exact absurd H (by simp)
                     ·rw [if_neg c38] at H
                      exact absurd H (by simp)
                    ·rw [if_neg c37] at H
                     exact absurd H (by simp)
                   ·rw [if_neg c36] at H
                    exact absurd H (by simp)
                  ·rw [if_neg c35] at H
                   exact absurd H (by simp)
                 ·rw [if_neg c34] at H
                  exact absurd H (by simp)
                ·rw [if_neg c33] at H
                 exact absurd H (by simp)
               ·rw [if_neg c32] at H
                exact absurd H (by simp)
              ·rw [if_neg c31] at H
               exact absurd H (by simp)
             ·rw [if_neg c30] at H
              exact absurd H (by simp)
            ·rw [if_neg c29] at H
             exact absurd H (by simp)
        ·rw [if_neg c16] at H
         exact absurd H (by simp)
       ·rw [if_neg c15] at H
        exact absurd H (by simp)
      ·rw [if_neg c13] at H
       have c13b0 : (t135 == t136) = false := beq_eq_false_iff_ne.mpr c13
       have c13b1 : (t135 != t136) = true := bne_iff_ne.mpr c13
       simp only [Option.some.injEq, Prod.mk.injEq] at H
       obtain ⟨rfl, rfl, rfl, rfl, rfl, rfl, rfl, rfl, rfl, rfl, rfl, rfl⟩ := H
       try go_wp2
       have n0_ := Aside0.mk (blk_drew BK133.out)
       have n1_ := Aside0.mk (below_drew1 HB.out)
       clear BK133
       clear HB
       have BK133 := n0_
       have HB := n1_
       clear n0_ n1_
       refine start_ (n := 9) (S := fun w' => True) (ds := []) #[false, false, false, false, false, false, false, false, false] (by kernel_rfl) rfl rfl trivial (fun hHeld => ?_); refine with_tabW wire_Take.tab4 wire_Take.bits4 (fun HT_ HW_ => ?_)
       generalize wc.drew = w83 at BK133 HB hHeld ⊢
       refine pure_ (i := 0) (N := some 32) (v := ?_) (a' := ?_) #[true, false, false, false, false, false, false, false, false] rfl rfl (any_of HT_.out (by kernel_rfl)) (fun _ _ _ h => h) (Or.inl ⟨by rfl, ?_⟩) ?_ ?_
       rotate_left
       ·intro w'
        go_simp
        with_reducible rfl
       rotate_left
       ·simp only [Act.put, List.setIfInBounds_toArray, List.set_cons_zero, List.set_cons_succ, i64_w, i32_w]
        rfl
       refine pure_ (i := 1) (N := some 33) (v := ?_) (a' := ?_) #[true, true, false, false, false, false, false, false, false] rfl rfl (any_of HT_.out (by kernel_rfl)) (fun _ _ _ h => h) (Or.inl ⟨by rfl, ?_⟩) ?_ ?_
       rotate_left
       ·intro w'
        go_simp
        with_reducible rfl
       rotate_left
       ·simp only [Act.put, List.setIfInBounds_toArray, List.set_cons_zero, List.set_cons_succ, i64_w, i32_w]
        rfl
       refine pure_ (i := 3) (N := some 35) (v := ?_) (a' := ?_) #[true, true, false, true, false, false, false, false, false] rfl rfl (any_of HT_.out (by kernel_rfl)) (fun _ _ _ h => h) (Or.inl ⟨by rfl, ?_⟩) ?_ ?_
       rotate_left
       ·intro w'
        go_simp
        with_reducible rfl
       rotate_left
       ·simp only [Act.put, List.setIfInBounds_toArray, List.set_cons_zero, List.set_cons_succ, i64_w, i32_w]
        rfl
       refine pure_ (i := 4) (N := some 36) (v := ?_) (a' := ?_) #[true, true, false, true, true, false, false, false, false] rfl rfl (any_of HT_.out (by kernel_rfl)) (fun _ _ _ h => h) (Or.inl ⟨by rfl, ?_⟩) ?_ ?_
       rotate_left
       ·intro w'
        go_simp
        with_reducible rfl
       rotate_left
       ·simp only [Act.put, List.setIfInBounds_toArray, List.set_cons_zero, List.set_cons_succ, i64_w, i32_w]
        rfl
       refine pure_ (i := 5) (N := some 37) (v := ?_) (a' := ?_) #[true, true, false, true, true, true, false, false, false] rfl rfl (any_of HT_.out (by kernel_rfl)) (fun _ _ _ h => h) (Or.inl ⟨by rfl, ?_⟩) ?_ ?_
       rotate_left
       ·intro w'
        go_simp
        with_reducible rfl
       rotate_left
       ·simp only [Act.put, List.setIfInBounds_toArray, List.set_cons_zero, List.set_cons_succ, i64_w, i32_w]
        rfl
       refine pure_ (i := 6) (N := some 38) (v := ?_) (a' := ?_) #[true, true, false, true, true, true, true, false, false] rfl rfl (any_of HT_.out (by kernel_rfl)) (fun _ _ _ h => h) (Or.inl ⟨by rfl, ?_⟩) ?_ ?_
       rotate_left
       ·intro w'
        go_simp
        with_reducible rfl
       rotate_left
       ·simp only [Act.put, List.setIfInBounds_toArray, List.set_cons_zero, List.set_cons_succ, i64_w, i32_w]
        rfl
       refine one_ (i := 2) (N := some 34) #[true, true, true, true, true, true, true, false, false] rfl rfl (one_of HT_.out (by kernel_rfl)) (by decide) (fun K hK => ?_)
       refine goes_ Try.func40 (by kernel_rfl) rfl #[.string a0, .int .i64 (wrap64 ((wrap64 ((a0.size : Int) / 4)) - 1))] (by rfl) rfl rfl (by (try simp only [List.map_toArray, List.map_cons, List.map_nil]); first | done | rfl | (simp only [ByteArray.size_append, Int.natCast_add, List.length_drop, List.length_take]; first | done | rfl) | (simp only [List.length_drop, List.length_take]; rfl)) ?_
       with_reducible refine (wire_number.calls kj1 a0 (wrap64 ((wrap64 ((a0.size : Int) / 4)) - 1)) t135 _ A9.out).mono ?_
       rintro e w' ⟨rfl, ⟨nd, rfl⟩⟩
       refine ⟨_, rfl, ?_⟩
       refine hK.out _ _ trivial (fun hHeld => ?_)
       clear hK K
       refine norm_ (a' := ?_) ?_ ?_
       rotate_left
       ·show Act.put _ (some 34) _ = _
        simp only [Act.put, List.setIfInBounds_toArray, List.set_cons_zero, List.set_cons_succ, i64_w, i32_w]
        rfl
       refine one_ (i := 7) (N := some 39) #[true, true, true, true, true, true, true, true, false] rfl rfl (one_of HT_.out (by kernel_rfl)) (by decide) (fun K hK => ?_)
       refine goes_ Try.func16 (by kernel_rfl) rfl #[.string (a0.extract 4 ((wrap64 (4 * (wrap64 ((wrap64 ((a0.size : Int) / 4)) - 1)))) : Int).toNat)] (by rfl) rfl rfl (by (try simp only [List.map_toArray, List.map_cons, List.map_nil]); first | done | rfl | (simp only [ByteArray.size_append, Int.natCast_add, List.length_drop, List.length_take]; first | done | rfl) | (simp only [List.length_drop, List.length_take]; rfl)) ?_
       with_reducible refine (crc_Sum.calls (a0.extract 4 ((wrap64 (4 * (wrap64 ((wrap64 ((a0.size : Int) / 4)) - 1)))) : Int).toNat) t136 _ A12.out).mono ?_
       rintro e w84 ⟨rfl, hb⟩
       refine ⟨_, rfl, ?_⟩
       have n0_ := Aside0.mk (blk_below (g := gb133) (o := .cells #[.int .i64 0, .int .i64 0, .int .i64 0, .int .i64 0, .int .i64 0, .int .i64 0, .int .i64 0, .int .i64 0, .int .i64 0, .int .i64 0, .slice none 0 0] 32 (0, 0)) (by (with_reducible repeat (first | refine blk_drewN ?_ _ | refine blk_drew ?_ | refine blk_alloc ?_ _)); exact BK133.out) hb)
       have n1_ := Aside0.mk (below_step (by repeat (first | (with_reducible first | exact HB.out | apply below_alloc | apply pw_below_drewN | apply below_drew1 | refine below_set ?_ GE133.out) | exact HB.out)) hb)
       clear BK133
       clear HB
       have BK133 := n0_
       have HB := n1_
       clear n0_ n1_
       (try clear hb)
       (try clear hb2)
       (try clear hk)
       (try clear hi)
       refine hK.out _ _ trivial (fun hHeld => ?_)
       clear hK K
       refine norm_ (a' := ?_) ?_ ?_
       rotate_left
       ·show Act.put _ (some 39) _ = _
        simp only [Act.put, List.setIfInBounds_toArray, List.set_cons_zero, List.set_cons_succ, i64_w, i32_w]
        rfl
       refine pure_ (i := 8) (N := some 40) (v := ?_) (a' := ?_) #[true, true, true, true, true, true, true, true, true] rfl rfl (any_of HT_.out (by kernel_rfl)) (fun _ _ _ h => h) (Or.inl ⟨by rfl, ?_⟩) ?_ ?_
       rotate_left
       ·intro w'
        go_simp
        with_reducible rfl
       rotate_left
       ·simp only [Act.put, List.setIfInBounds_toArray, List.set_cons_zero, List.set_cons_succ, i64_w, i32_w]
        rfl
       refine done_ (done_of HT_.out (by kernel_rfl)) ?_
       have hcz85_0 : w84.cell? ⟨gb133, 0, none⟩ = some (.int .i64 0) := (blk_cell BK133.out 0).trans rfl
       have hcz85_1 : w84.cell? ⟨gb133, 1, none⟩ = some (.int .i64 0) := (blk_cell BK133.out 1).trans rfl
       have hcz85_2 : w84.cell? ⟨gb133, 2, none⟩ = some (.int .i64 0) := (blk_cell BK133.out 2).trans rfl
       have hcz85_3 : w84.cell? ⟨gb133, 3, none⟩ = some (.int .i64 0) := (blk_cell BK133.out 3).trans rfl
       have hcz85_4 : w84.cell? ⟨gb133, 4, none⟩ = some (.int .i64 0) := (blk_cell BK133.out 4).trans rfl
       have hcz85_5 : w84.cell? ⟨gb133, 5, none⟩ = some (.int .i64 0) := (blk_cell BK133.out 5).trans rfl
       have hcz85_6 : w84.cell? ⟨gb133, 6, none⟩ = some (.int .i64 0) := (blk_cell BK133.out 6).trans rfl
       have hcz85_7 : w84.cell? ⟨gb133, 7, none⟩ = some (.int .i64 0) := (blk_cell BK133.out 7).trans rfl
       have hcz85_8 : w84.cell? ⟨gb133, 8, none⟩ = some (.int .i64 0) := (blk_cell BK133.out 8).trans rfl
       have hcz85_9 : w84.cell? ⟨gb133, 9, none⟩ = some (.int .i64 0) := (blk_cell BK133.out 9).trans rfl
       have hcz85_10 : w84.cell? ⟨gb133, 10, none⟩ = some (.slice none 0 0) := (blk_cell BK133.out 10).trans rfl
       have hfz85_0 := blk_frozen BK133.out 0
       have hfz85_1 := blk_frozen BK133.out 1
       have hfz85_2 := blk_frozen BK133.out 2
       have hfz85_3 := blk_frozen BK133.out 3
       have hfz85_4 := blk_frozen BK133.out 4
       have hfz85_5 := blk_frozen BK133.out 5
       have hfz85_6 := blk_frozen BK133.out 6
       have hfz85_7 := blk_frozen BK133.out 7
       have hfz85_8 := blk_frozen BK133.out 8
       have hfz85_9 := blk_frozen BK133.out 9
       have hfz85_10 := blk_frozen BK133.out 10
       try go_wp2
       refine bodyPost_ret (results_ct rfl _ _ gb133 32 #[.int .i64 0, .int .i64 0, .int .i64 0, .int .i64 0, .int .i64 0, .int .i64 0, .int .i64 0, .int .i64 0, .int .i64 0, .int .i64 0, .slice none 0 0] (0, 0) _ rfl (by (with_reducible repeat (first | refine blk_drewN ?_ _ | refine blk_drew ?_ | refine blk_alloc ?_ _)); refine blk_put (cs := #[.int .i64 0, .int .i64 0, .int .i64 0, .int .i64 0, .int .i64 0, .int .i64 0, .int .i64 0, .int .i64 0, .int .i64 0, .int .i64 0, .slice none 0 0]) ?_ 10 _ rfl; (with_reducible repeat (first | refine blk_drewN ?_ _ | refine blk_drew ?_ | refine blk_alloc ?_ _)); refine blk_put (cs := #[.int .i64 0, .int .i64 0, .int .i64 0, .int .i64 0, .int .i64 0, .int .i64 0, .int .i64 0, .int .i64 0, .int .i64 0, .int .i64 0, .slice none 0 0]) ?_ 9 _ rfl; (with_reducible repeat (first | refine blk_drewN ?_ _ | refine blk_drew ?_ | refine blk_alloc ?_ _)); refine blk_put (cs := #[.int .i64 0, .int .i64 0, .int .i64 0, .int .i64 0, .int .i64 0, .int .i64 0, .int .i64 0, .int .i64 0, .int .i64 0, .int .i64 0, .slice none 0 0]) ?_ 8 _ rfl; (with_reducible repeat (first | refine blk_drewN ?_ _ | refine blk_drew ?_ | refine blk_alloc ?_ _)); refine blk_put (cs := #[.int .i64 0, .int .i64 0, .int .i64 0, .int .i64 0, .int .i64 0, .int .i64 0, .int .i64 0, .int .i64 0, .int .i64 0, .int .i64 0, .slice none 0 0]) ?_ 7 _ rfl; (with_reducible repeat (first | refine blk_drewN ?_ _ | refine blk_drew ?_ | refine blk_alloc ?_ _)); refine blk_put (cs := #[.int .i64 0, .int .i64 0, .int .i64 0, .int .i64 0, .int .i64 0, .int .i64 0, .int .i64 0, .int .i64 0, .int .i64 0, .int .i64 0, .slice none 0 0]) ?_ 6 _ rfl; (with_reducible repeat (first | refine blk_drewN ?_ _ | refine blk_drew ?_ | refine blk_alloc ?_ _)); refine blk_put (cs := #[.int .i64 0, .int .i64 0, .int .i64 0, .int .i64 0, .int .i64 0, .int .i64 0, .int .i64 0, .int .i64 0, .int .i64 0, .int .i64 0, .slice none 0 0]) ?_ 5 _ rfl; (with_reducible repeat (first | refine blk_drewN ?_ _ | refine blk_drew ?_ | refine blk_alloc ?_ _)); refine blk_put (cs := #[.int .i64 0, .int .i64 0, .int .i64 0, .int .i64 0, .int .i64 0, .int .i64 0, .int .i64 0, .int .i64 0, .int .i64 0, .int .i64 0, .slice none 0 0]) ?_ 4 _ rfl; (with_reducible repeat (first | refine blk_drewN ?_ _ | refine blk_drew ?_ | refine blk_alloc ?_ _)); refine blk_put (cs := #[.int .i64 0, .int .i64 0, .int .i64 0, .int .i64 0, .int .i64 0, .int .i64 0, .int .i64 0, .int .i64 0, .int .i64 0, .int .i64 0, .slice none 0 0]) ?_ 3 _ rfl; (with_reducible repeat (first | refine blk_drewN ?_ _ | refine blk_drew ?_ | refine blk_alloc ?_ _)); refine blk_put (cs := #[.int .i64 0, .int .i64 0, .int .i64 0, .int .i64 0, .int .i64 0, .int .i64 0, .int .i64 0, .int .i64 0, .int .i64 0, .int .i64 0, .slice none 0 0]) ?_ 2 _ rfl; (with_reducible repeat (first | refine blk_drewN ?_ _ | refine blk_drew ?_ | refine blk_alloc ?_ _)); refine blk_put (cs := #[.int .i64 0, .int .i64 0, .int .i64 0, .int .i64 0, .int .i64 0, .int .i64 0, .int .i64 0, .int .i64 0, .int .i64 0, .int .i64 0, .slice none 0 0]) ?_ 1 _ rfl; (with_reducible repeat (first | refine blk_drewN ?_ _ | refine blk_drew ?_ | refine blk_alloc ?_ _)); refine blk_put (cs := #[.int .i64 0, .int .i64 0, .int .i64 0, .int .i64 0, .int .i64 0, .int .i64 0, .int .i64 0, .int .i64 0, .int .i64 0, .int .i64 0, .slice none 0 0]) ?_ 0 _ rfl; (with_reducible repeat (first | refine blk_drewN ?_ _ | refine blk_drew ?_ | refine blk_alloc ?_ _)); exact BK133.out) Try.underlying32 rfl (by kernel_rfl)) rfl ?_
       exact ⟨_, by first | rfl | (simp [errW_none, errW_some] <;> rfl) | (simp [*, errW_none, errW_some] <;> rfl), by first | exact Kd.R_nil _ _ _ _ _ | exact Kd.N_nil _ _ _ _ _ | exact Kd.V_nil _ _ _ _ _ | exact Kd.Q_nil _ _ _ _ _ | exact Kd.S_nil _ _ _ _ _, by repeat (first | (with_reducible first | exact HB.out | apply below_alloc | apply pw_below_drewN | apply below_drew1 | refine below_set ?_ GE133.out) | exact HB.out)⟩
     ·rw [if_neg c11] at H
      exact absurd H (by simp)
    ·rw [if_neg c10] at H
     exact absurd H (by simp)

end
end Go.Proofs.Ytgfpkhihdahjlab.QWire
