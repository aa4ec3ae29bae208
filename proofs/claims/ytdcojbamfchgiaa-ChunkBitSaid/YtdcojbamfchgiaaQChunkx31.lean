-- Printed by a program of this session's own (wip/gen), which turns the kit's printer; not one of the kit's printed texts.
import Derived.Test.YtdcojbamfchgiaaQChunkx0
import Derived.Test.YtdcojbamfchgiaaQChunkx23
import Derived.Test.YtdcojbamfchgiaaQChunkx24
import Derived.Test.YtdcojbamfchgiaaQChunkx27
import Derived.Test.YtdcojbamfchgiaaQChunkx30
namespace Go.Proofs.Ytdcojbamfchgiaa.QChunk
open Go.RowKit Go.Proofs.Ytdcojbamfchgiaa.Given Go.Proofs.Ytdcojbamfchgiaa.Right Go.Proofs.Ytdcojbamfchgiaa.RExpert Go.Proofs.Ytdcojbamfchgiaa.Export Go.Proofs.Ytdcojbamfchgiaa.Join Go.Proofs.YtdcojbamfchgiaaW.PrintWords Go.Proofs.YtdcojbamfchgiaaW.PrintLast Go.Proofs.YtdcojbamfchgiaaW.PrintMore
attribute [local go_sem] max2_int min2_int max_two min_two max_three min_three max_four min_four   -- for this text's walks alone
set_option linter.unusedVariables false
set_option linter.unusedSimpArgs false
noncomputable section

/-! ### switchboardref16_Import: function 18 -/
mutual
def switchboardref16_Import.j0 : Nat → ByteArray → Bool → Option ((List (List Int)) × (List (List Int)) × Int × Int)
  | 0, _, _ => none
  | k + 1, x0, x24 => if x24 = true then (some (([] : List (List Int)), ([] : List (List Int)), 0, 2)) else (if 0 ≤ (wrap64 ((x0.size : Int) - 4)) then (if (wrap64 ((x0.size : Int) - 4)) ≤ (x0.size : Int) then ((switchboardref06_Sum.f k (x0.extract 0 ((wrap64 ((x0.size : Int) - 4)) : Int).toNat)).bind fun t259 => ((switchboardref16_four.f t259).bind fun t260 => (if t260.toList = (x0.extract ((wrap64 ((x0.size : Int) - 4)) : Int).toNat x0.size).toList then ((switchboardref16_at.f x0 0).bind fun t261 => ((switchboardref16_at.f x0 4).bind fun t262 => (if t261 < 1 then (switchboardref16_Import.j1 k x0 t261 t262 true) else (if t261 > 8 then (switchboardref16_Import.j1 k x0 t261 t262 true) else (if t262 < 1 then (switchboardref16_Import.j1 k x0 t261 t262 true) else (if t262 > 8 then (switchboardref16_Import.j1 k x0 t261 t262 true) else (switchboardref16_Import.j1 k x0 t261 t262 ((x0.size : Int) != (wrap64 (12 + (wrap64 ((wrap64 (8 * t261)) * t262)))))))))))) else (some (([] : List (List Int)), ([] : List (List Int)), 0, 9))))) else (none)) else (none))
def switchboardref16_Import.j1 : Nat → ByteArray → Int → Int → Bool → Option ((List (List Int)) × (List (List Int)) × Int × Int)
  | 0, _, _, _, _ => none
  | k + 1, x0, x6, x7, x66 => if x66 = true then (some (([] : List (List Int)), ([] : List (List Int)), 0, 2)) else (switchboardref16_Import.l0 k x0 x6 x7 8 0 ([] : List (List Int)))
def switchboardref16_Import.l0 : Nat → ByteArray → Int → Int → Int → Int → List (List Int) → Option ((List (List Int)) × (List (List Int)) × Int × Int)
  | 0, _, _, _, _, _, _ => none
  | k + 1, x0, x6, x7, x9, x10, x264000 => if x10 < x6 then (switchboardref16_Import.l1 k x0 x6 x7 x9 x10 ([] : List Int) 0 x264000) else (switchboardref16_Import.l2 k x0 x6 x7 x9 0 x264000 ([] : List (List Int)))
def switchboardref16_Import.l1 : Nat → ByteArray → Int → Int → Int → Int → List Int → Int → List (List Int) → Option ((List (List Int)) × (List (List Int)) × Int × Int)
  | 0, _, _, _, _, _, _, _, _ => none
  | k + 1, x0, x6, x7, x9, x10, x11, x12, x264000 => if x12 < x7 then ((switchboardref16_at.f x0 x9).bind fun t264 => (if x11.length < 17592186044416 then (switchboardref16_Import.l1 k x0 x6 x7 (wrap64 (x9 + 4)) x10 (x11 ++ [t264]) (wrap64 (x12 + 1)) x264000) else (none))) else (if x264000.length < 5864062014805 then (switchboardref16_Import.l0 k x0 x6 x7 x9 (wrap64 (x10 + 1)) (x264000 ++ [x11])) else (none))
def switchboardref16_Import.l2 : Nat → ByteArray → Int → Int → Int → Int → List (List Int) → List (List Int) → Option ((List (List Int)) × (List (List Int)) × Int × Int)
  | 0, _, _, _, _, _, _, _ => none
  | k + 1, x0, x6, x7, x9, x13, x264000, x264001 => if x13 < x7 then (switchboardref16_Import.l3 k x0 x6 x7 x9 x13 ([] : List Int) 0 x264000 x264001) else ((switchboardref11_Right.f k x264000 x264001 x7).bind fun t271 => (if t271 = true then (some (x264000, x264001, x7, 0)) else (some (([] : List (List Int)), ([] : List (List Int)), 0, 2))))
def switchboardref16_Import.l3 : Nat → ByteArray → Int → Int → Int → Int → List Int → Int → List (List Int) → List (List Int) → Option ((List (List Int)) × (List (List Int)) × Int × Int)
  | 0, _, _, _, _, _, _, _, _, _ => none
  | k + 1, x0, x6, x7, x9, x13, x14, x15, x264000, x264001 => if x15 < x6 then ((switchboardref16_at.f x0 x9).bind fun t272 => (if x14.length < 17592186044416 then (switchboardref16_Import.l3 k x0 x6 x7 (wrap64 (x9 + 4)) x13 (x14 ++ [t272]) (wrap64 (x15 + 1)) x264000 x264001) else (none))) else (if x264001.length < 5864062014805 then (switchboardref16_Import.l2 k x0 x6 x7 x9 (wrap64 (x13 + 1)) x264000 (x264001 ++ [x14])) else (none))
end
def switchboardref16_Import.f (k : Nat) (a0 : ByteArray) : Option ((List (List Int)) × (List (List Int)) × Int × Int) := if (a0.size : Int) < 12 then (switchboardref16_Import.j0 k a0 true) else (switchboardref16_Import.j0 k a0 (((a0.size : Int) % 4) != 0))
theorem switchboardref16_Import.mono_l : ∀ k, (∀ y0 y1, LeO (switchboardref16_Import.j0 k y0 y1) (switchboardref16_Import.j0 (k + 1) y0 y1)) ∧ (∀ y0 y1 y2 y3, LeO (switchboardref16_Import.j1 k y0 y1 y2 y3) (switchboardref16_Import.j1 (k + 1) y0 y1 y2 y3)) ∧ (∀ y0 y1 y2 y3 y4 y5, LeO (switchboardref16_Import.l0 k y0 y1 y2 y3 y4 y5) (switchboardref16_Import.l0 (k + 1) y0 y1 y2 y3 y4 y5)) ∧ (∀ y0 y1 y2 y3 y4 y5 y6 y7, LeO (switchboardref16_Import.l1 k y0 y1 y2 y3 y4 y5 y6 y7) (switchboardref16_Import.l1 (k + 1) y0 y1 y2 y3 y4 y5 y6 y7)) ∧ (∀ y0 y1 y2 y3 y4 y5 y6, LeO (switchboardref16_Import.l2 k y0 y1 y2 y3 y4 y5 y6) (switchboardref16_Import.l2 (k + 1) y0 y1 y2 y3 y4 y5 y6)) ∧ (∀ y0 y1 y2 y3 y4 y5 y6 y7 y8, LeO (switchboardref16_Import.l3 k y0 y1 y2 y3 y4 y5 y6 y7 y8) (switchboardref16_Import.l3 (k + 1) y0 y1 y2 y3 y4 y5 y6 y7 y8))
  | 0 => ⟨fun _ _ r h => by simp [switchboardref16_Import.j0] at h, fun _ _ _ _ r h => by simp [switchboardref16_Import.j1] at h, fun _ _ _ _ _ _ r h => by simp [switchboardref16_Import.l0] at h, fun _ _ _ _ _ _ _ _ r h => by simp [switchboardref16_Import.l1] at h, fun _ _ _ _ _ _ _ r h => by simp [switchboardref16_Import.l2] at h, fun _ _ _ _ _ _ _ _ _ r h => by simp [switchboardref16_Import.l3] at h⟩
  | k + 1 => by
    obtain ⟨ih0, ih1, ih2, ih3, ih4, ih5⟩ := switchboardref16_Import.mono_l k
    refine ⟨?_, ?_, ?_, ?_, ?_, ?_⟩
    · intro y0 y1
      unfold switchboardref16_Import.j0
      repeat' first
      | (with_reducible exact ih0 _ _)
      | (with_reducible exact ih1 _ _ _ _)
      | (with_reducible exact ih2 _ _ _ _ _ _)
      | (with_reducible exact ih3 _ _ _ _ _ _ _ _)
      | (with_reducible exact ih4 _ _ _ _ _ _ _)
      | (with_reducible exact ih5 _ _ _ _ _ _ _ _ _)
      | (with_reducible exact switchboardref06_Sum.mono _ _)
      | (with_reducible exact switchboardref11_Right.mono _ _ _ _)
      | (with_reducible exact LeO.refl _)
      | (with_reducible exact LeO.none _)
      | (with_reducible refine LeO.ite ?_ ?_)
      | (with_reducible refine LeO.bind ?_ (fun _ => ?_))
      | exact ih0 _ _
      | exact ih1 _ _ _ _
      | exact ih2 _ _ _ _ _ _
      | exact ih3 _ _ _ _ _ _ _ _
      | exact ih4 _ _ _ _ _ _ _
      | exact ih5 _ _ _ _ _ _ _ _ _
      | exact switchboardref06_Sum.mono _ _
      | exact switchboardref11_Right.mono _ _ _ _
      | exact LeO.none _
      | refine LeO.ite ?_ ?_
      | refine LeO.bind ?_ (fun _ => ?_)
    · intro y0 y1 y2 y3
      unfold switchboardref16_Import.j1
      repeat' first
      | (with_reducible exact ih0 _ _)
      | (with_reducible exact ih1 _ _ _ _)
      | (with_reducible exact ih2 _ _ _ _ _ _)
      | (with_reducible exact ih3 _ _ _ _ _ _ _ _)
      | (with_reducible exact ih4 _ _ _ _ _ _ _)
      | (with_reducible exact ih5 _ _ _ _ _ _ _ _ _)
      | (with_reducible exact switchboardref06_Sum.mono _ _)
      | (with_reducible exact switchboardref11_Right.mono _ _ _ _)
      | (with_reducible exact LeO.refl _)
      | (with_reducible exact LeO.none _)
      | (with_reducible refine LeO.ite ?_ ?_)
      | (with_reducible refine LeO.bind ?_ (fun _ => ?_))
      | exact ih0 _ _
      | exact ih1 _ _ _ _
      | exact ih2 _ _ _ _ _ _
      | exact ih3 _ _ _ _ _ _ _ _
      | exact ih4 _ _ _ _ _ _ _
      | exact ih5 _ _ _ _ _ _ _ _ _
      | exact switchboardref06_Sum.mono _ _
      | exact switchboardref11_Right.mono _ _ _ _
      | exact LeO.none _
      | refine LeO.ite ?_ ?_
      | refine LeO.bind ?_ (fun _ => ?_)
    · intro y0 y1 y2 y3 y4 y5
      unfold switchboardref16_Import.l0
      repeat' first
      | (with_reducible exact ih0 _ _)
      | (with_reducible exact ih1 _ _ _ _)
      | (with_reducible exact ih2 _ _ _ _ _ _)
      | (with_reducible exact ih3 _ _ _ _ _ _ _ _)
      | (with_reducible exact ih4 _ _ _ _ _ _ _)
      | (with_reducible exact ih5 _ _ _ _ _ _ _ _ _)
      | (with_reducible exact switchboardref06_Sum.mono _ _)
      | (with_reducible exact switchboardref11_Right.mono _ _ _ _)
      | (with_reducible exact LeO.refl _)
      | (with_reducible exact LeO.none _)
      | (with_reducible refine LeO.ite ?_ ?_)
      | (with_reducible refine LeO.bind ?_ (fun _ => ?_))
      | exact ih0 _ _
      | exact ih1 _ _ _ _
      | exact ih2 _ _ _ _ _ _
      | exact ih3 _ _ _ _ _ _ _ _
      | exact ih4 _ _ _ _ _ _ _
      | exact ih5 _ _ _ _ _ _ _ _ _
      | exact switchboardref06_Sum.mono _ _
      | exact switchboardref11_Right.mono _ _ _ _
      | exact LeO.none _
      | refine LeO.ite ?_ ?_
      | refine LeO.bind ?_ (fun _ => ?_)
    · intro y0 y1 y2 y3 y4 y5 y6 y7
      unfold switchboardref16_Import.l1
      repeat' first
      | (with_reducible exact ih0 _ _)
      | (with_reducible exact ih1 _ _ _ _)
      | (with_reducible exact ih2 _ _ _ _ _ _)
      | (with_reducible exact ih3 _ _ _ _ _ _ _ _)
      | (with_reducible exact ih4 _ _ _ _ _ _ _)
      | (with_reducible exact ih5 _ _ _ _ _ _ _ _ _)
      | (with_reducible exact switchboardref06_Sum.mono _ _)
      | (with_reducible exact switchboardref11_Right.mono _ _ _ _)
      | (with_reducible exact LeO.refl _)
      | (with_reducible exact LeO.none _)
      | (with_reducible refine LeO.ite ?_ ?_)
      | (with_reducible refine LeO.bind ?_ (fun _ => ?_))
      | exact ih0 _ _
      | exact ih1 _ _ _ _
      | exact ih2 _ _ _ _ _ _
      | exact ih3 _ _ _ _ _ _ _ _
      | exact ih4 _ _ _ _ _ _ _
      | exact ih5 _ _ _ _ _ _ _ _ _
      | exact switchboardref06_Sum.mono _ _
      | exact switchboardref11_Right.mono _ _ _ _
      | exact LeO.none _
      | refine LeO.ite ?_ ?_
      | refine LeO.bind ?_ (fun _ => ?_)
    · intro y0 y1 y2 y3 y4 y5 y6
      unfold switchboardref16_Import.l2
      repeat' first
      | (with_reducible exact ih0 _ _)
      | (with_reducible exact ih1 _ _ _ _)
      | (with_reducible exact ih2 _ _ _ _ _ _)
      | (with_reducible exact ih3 _ _ _ _ _ _ _ _)
      | (with_reducible exact ih4 _ _ _ _ _ _ _)
      | (with_reducible exact ih5 _ _ _ _ _ _ _ _ _)
      | (with_reducible exact switchboardref06_Sum.mono _ _)
      | (with_reducible exact switchboardref11_Right.mono _ _ _ _)
      | (with_reducible exact LeO.refl _)
      | (with_reducible exact LeO.none _)
      | (with_reducible refine LeO.ite ?_ ?_)
      | (with_reducible refine LeO.bind ?_ (fun _ => ?_))
      | exact ih0 _ _
      | exact ih1 _ _ _ _
      | exact ih2 _ _ _ _ _ _
      | exact ih3 _ _ _ _ _ _ _ _
      | exact ih4 _ _ _ _ _ _ _
      | exact ih5 _ _ _ _ _ _ _ _ _
      | exact switchboardref06_Sum.mono _ _
      | exact switchboardref11_Right.mono _ _ _ _
      | exact LeO.none _
      | refine LeO.ite ?_ ?_
      | refine LeO.bind ?_ (fun _ => ?_)
    · intro y0 y1 y2 y3 y4 y5 y6 y7 y8
      unfold switchboardref16_Import.l3
      repeat' first
      | (with_reducible exact ih0 _ _)
      | (with_reducible exact ih1 _ _ _ _)
      | (with_reducible exact ih2 _ _ _ _ _ _)
      | (with_reducible exact ih3 _ _ _ _ _ _ _ _)
      | (with_reducible exact ih4 _ _ _ _ _ _ _)
      | (with_reducible exact ih5 _ _ _ _ _ _ _ _ _)
      | (with_reducible exact switchboardref06_Sum.mono _ _)
      | (with_reducible exact switchboardref11_Right.mono _ _ _ _)
      | (with_reducible exact LeO.refl _)
      | (with_reducible exact LeO.none _)
      | (with_reducible refine LeO.ite ?_ ?_)
      | (with_reducible refine LeO.bind ?_ (fun _ => ?_))
      | exact ih0 _ _
      | exact ih1 _ _ _ _
      | exact ih2 _ _ _ _ _ _
      | exact ih3 _ _ _ _ _ _ _ _
      | exact ih4 _ _ _ _ _ _ _
      | exact ih5 _ _ _ _ _ _ _ _ _
      | exact switchboardref06_Sum.mono _ _
      | exact switchboardref11_Right.mono _ _ _ _
      | exact LeO.none _
      | refine LeO.ite ?_ ?_
      | refine LeO.bind ?_ (fun _ => ?_)
theorem switchboardref16_Import.mono : ∀ a0 k, LeO (switchboardref16_Import.f k a0) (switchboardref16_Import.f (k + 1) a0) := by
  intro a0 k
  obtain ⟨ih0, ih1, ih2, ih3, ih4, ih5⟩ := switchboardref16_Import.mono_l k
  unfold switchboardref16_Import.f
  repeat' first
      | (with_reducible exact ih0 _ _)
      | (with_reducible exact ih1 _ _ _ _)
      | (with_reducible exact ih2 _ _ _ _ _ _)
      | (with_reducible exact ih3 _ _ _ _ _ _ _ _)
      | (with_reducible exact ih4 _ _ _ _ _ _ _)
      | (with_reducible exact ih5 _ _ _ _ _ _ _ _ _)
      | (with_reducible exact switchboardref06_Sum.mono _ _)
      | (with_reducible exact switchboardref11_Right.mono _ _ _ _)
      | (with_reducible exact LeO.refl _)
      | (with_reducible exact LeO.none _)
      | (with_reducible refine LeO.ite ?_ ?_)
      | (with_reducible refine LeO.bind ?_ (fun _ => ?_))
      | exact ih0 _ _
      | exact ih1 _ _ _ _
      | exact ih2 _ _ _ _ _ _
      | exact ih3 _ _ _ _ _ _ _ _
      | exact ih4 _ _ _ _ _ _ _
      | exact ih5 _ _ _ _ _ _ _ _ _
      | exact switchboardref06_Sum.mono _ _
      | exact switchboardref11_Right.mono _ _ _ _
      | exact LeO.none _
      | refine LeO.ite ?_ ?_
      | refine LeO.bind ?_ (fun _ => ?_)
def switchboardref16_Import.T4 : Bool × List (List Nat × List Nat) := (true, [([], []), ([], []), ([0, 1], [0, 1]), ([2], [2]), ([3, 3], [3]), ([], []), ([], []), ([5, 6], [5, 6]), ([4, 7], [4, 7])])
def switchboardref16_Import.B4 : List Nat := [0, 0, 3, 7, 15, 0, 0, 96, 255]
theorem switchboardref16_Import.tab4 : rtab .any (opsOf Try.f18 4) = switchboardref16_Import.T4 := by kernel_rfl
theorem switchboardref16_Import.bits4 : waitsOk switchboardref16_Import.T4.2 switchboardref16_Import.B4 = true := by kernel_rfl
set_option maxHeartbeats 8000000 in
set_option maxRecDepth 100000 in
theorem switchboardref16_Import.calls (k : Nat) (a0 : ByteArray) (r1 : List (List Int)) (r2 : List (List Int)) (r3 : Int) (r4 : Int) (w : World) (h : switchboardref16_Import.f k a0 = some (r1, r2, r3, r4)) :
    Calls Try.prog 18 #[.string a0] w fun e w' => ∃ v0_ v1_ : Value, e = .returned (.tuple #[.agg #[v0_, v1_], .int .i64 r3, .int .i64 r4]) ∧ Kd.S (Kd.slice 3 (Kd.int .i64)) 49 w' w.heap.size (fun k_ => some k_ ≠ (v1_ : Value).ownBlock) v0_ r1 ∧ Kd.S (Kd.slice 3 (Kd.int .i64)) 49 w' w.heap.size (fun k_ => some k_ ≠ (v0_ : Value).ownBlock) v1_ r2 ∧ Below w.heap.size w w' := by
  have hu24 := Try.underlying24
  have HB := Aside0.mk (Below.refl w.heap.size w)
  have H : (if (a0.size : Int) < 12 then (switchboardref16_Import.j0 k a0 true) else (switchboardref16_Import.j0 k a0 (((a0.size : Int) % 4) != 0))) = some (r1, r2, r3, r4) := h
  clear h
  have HC2 := Aside0.mk H
  clear H
  go_enter Try.func18, Try.ntmps18
  go_upto_region 1 with (first | ((with_reducible refine gate_dst (N := 2) rfl ?_); (try (refine gate_guard (by rfl) ?_; dsimp only)); refine box_event ?hg (N := 2) ?hd (cs := #[.slice none 0 0, .slice none 0 0]) (t := 24) ?hr ?_; (case hd => rfl); (case hg => rfl); (case hr => first | (go_simp; done) | (go_simp; rfl)); intro gb258 hg w3 hbox hb; have n0_ := Aside0.mk (below_step (by repeat (first | (with_reducible first | exact HB.out | apply below_alloc | apply pw_below_drewN | apply below_drew1) | exact HB.out)) hb); have n1_ := Aside0.mk (hbox); have n2_ := Aside0.mk ((by rw [hg]; exact (below_size (by repeat (first | (with_reducible first | exact HB.out | apply below_alloc | apply pw_below_drewN | apply below_drew1) | exact HB.out))) : w.heap.size ≤ gb258)); have n3_ := Aside0.mk ((by rw [hg]; exact (below_size (by repeat (first | (with_reducible first | exact HB.out | apply below_alloc | apply pw_below_drewN | apply below_drew1) | exact HB.out))) : w.heap.size ≤ gb258)); clear HB; have HB := n0_; have BK258 := n1_; have GW258 := n2_; have GE258 := n3_; clear n0_ n1_ n2_ n3_; clear hb hbox hg))
  (try simp only [Act.put, List.setIfInBounds_toArray, List.set_cons_zero, List.set_cons_succ])
  go_cut [24] (fun v24 wc => ∃ (kq : Nat) (x24_1 : Bool), v24 = .bool x24_1 ∧ Aside0 (switchboardref16_Import.j0 kq a0 x24_1 = some (r1, r2, r3, r4)) ∧ Aside0 (kq ≤ k) ∧ Aside0 (wc.heap[gb258]? = some (.cells #[(.slice none 0 0), (.slice none 0 0)] 24 (0, 0))) ∧ Aside0 (Below w.heap.size w wc))
  case first =>
    have H := HC2.out
    clear HC2
    by_cases c4 : (a0.size : Int) < 12
    · rw [if_pos c4] at H
      have c4b0 : decide ((a0.size : Int) < 12) = true := decide_eq_true c4
      have c4b1 : decide (a0.size < 12) = true := decide_eq_true (by omega)
      clear c4
      (first | rw [c4b0] | (simp only [i64_w, i32_w]; rw [c4b0]) | skip)
      have H' := Aside0.mk H
      clear H
      go_wp2
      go_meet
      case rel => exact ⟨_, (true), (by first | rfl | (simp; done) | (simp [*]; done)), H', ⟨by first | omega | exact Nat.le_refl _⟩, ⟨by (with_reducible repeat (first | refine blk_drewN ?_ _ | refine blk_drew ?_ | refine blk_alloc ?_ _)); exact BK258.out⟩, ⟨by repeat (first | (with_reducible first | exact HB.out | apply below_alloc | apply pw_below_drewN | apply below_drew1 | refine below_set ?_ GE258.out) | exact HB.out)⟩⟩
    · rw [if_neg c4] at H
      have c4b0 : decide ((a0.size : Int) < 12) = false := decide_eq_false c4
      have c4b1 : decide (a0.size < 12) = false := decide_eq_false (by omega)
      clear c4
      (first | rw [c4b0] | (simp only [i64_w, i32_w]; rw [c4b0]) | skip)
      have H' := Aside0.mk H
      clear H
      go_wp2
      go_meet
      case rel => exact ⟨_, ((((a0.size : Int) % 4) != 0)), (by first | rfl | (simp; done) | (simp [*]; done)), H', ⟨by first | omega | exact Nat.le_refl _⟩, ⟨by (with_reducible repeat (first | refine blk_drewN ?_ _ | refine blk_drew ?_ | refine blk_alloc ?_ _)); exact BK258.out⟩, ⟨by repeat (first | (with_reducible first | exact HB.out | apply below_alloc | apply pw_below_drewN | apply below_drew1 | refine below_set ?_ GE258.out) | exact HB.out)⟩⟩
  case rest =>
    clear HC2
    try clear c1
    try clear p2
    try clear c4
    try clear c4b0
    try clear c4b1
    obtain ⟨kq, x24_1, rfl, HA, HJ1, BK258, HB⟩ := hcut
    cases kq with
    | zero => exact absurd HA.out (by simp [switchboardref16_Import.j0])
    | succ kj1 =>
      have H := HA.out
      clear HA
      simp only [switchboardref16_Import.j0] at H
      by_cases c5 : x24_1 = true
      · subst c5
        have H1 : (some (([] : List (List Int)), ([] : List (List Int)), 0, 2)) = some (r1, r2, r3, r4) := by rw [if_pos rfl] at H; exact H
        clear H
        have H := H1
        clear H1
        simp only [Option.some.injEq, Prod.mk.injEq] at H
        obtain ⟨rfl, rfl, rfl, rfl⟩ := H
        have hcz6_0 : wc.cell? ⟨gb258, 0, none⟩ = some (.slice none 0 0) := (blk_cell BK258.out 0).trans rfl
        have hcz6_1 : wc.cell? ⟨gb258, 1, none⟩ = some (.slice none 0 0) := (blk_cell BK258.out 1).trans rfl
        have hfz6_0 := blk_frozen BK258.out 0
        have hfz6_1 := blk_frozen BK258.out 1
        go_wp2
        refine bodyPost_ret (results_ctt rfl _ _ gb258 24 #[.slice none 0 0, .slice none 0 0] (0, 0) _ rfl (by (with_reducible repeat (first | refine blk_drewN ?_ _ | refine blk_drew ?_ | refine blk_alloc ?_ _)); refine blk_put (cs := #[.slice none 0 0, .slice none 0 0]) ?_ 1 _ rfl; (with_reducible repeat (first | refine blk_drewN ?_ _ | refine blk_drew ?_ | refine blk_alloc ?_ _)); refine blk_put (cs := #[.slice none 0 0, .slice none 0 0]) ?_ 0 _ rfl; (with_reducible repeat (first | refine blk_drewN ?_ _ | refine blk_drew ?_ | refine blk_alloc ?_ _)); exact BK258.out) Try.underlying24 rfl (by kernel_rfl)) rfl ?_
        exact ⟨_, _, by first | rfl | (simp [errW_none, errW_some] <;> rfl) | (simp [*, errW_none, errW_some] <;> rfl), by first | exact Kd.S_nil _ _ _ _ _ | exact Kd.N_nil _ _ _ _ _ | exact Kd.V_nil _ _ _ _ _ | exact Kd.Q_nil _ _ _ _ _ | exact Kd.R_nil _ _ _ _ _, by first | exact Kd.S_nil _ _ _ _ _ | exact Kd.N_nil _ _ _ _ _ | exact Kd.V_nil _ _ _ _ _ | exact Kd.Q_nil _ _ _ _ _ | exact Kd.R_nil _ _ _ _ _, by repeat (first | (with_reducible first | exact HB.out | apply below_alloc | apply pw_below_drewN | apply below_drew1 | refine below_set ?_ GE258.out) | exact HB.out)⟩
      · replace c5 := Bool.eq_false_iff.mpr c5
        subst c5
        have H1 : (if 0 ≤ (wrap64 ((a0.size : Int) - 4)) then (if (wrap64 ((a0.size : Int) - 4)) ≤ (a0.size : Int) then ((switchboardref06_Sum.f kj1 (a0.extract 0 ((wrap64 ((a0.size : Int) - 4)) : Int).toNat)).bind fun t259 => ((switchboardref16_four.f t259).bind fun t260 => (if t260.toList = (a0.extract ((wrap64 ((a0.size : Int) - 4)) : Int).toNat a0.size).toList then ((switchboardref16_at.f a0 0).bind fun t261 => ((switchboardref16_at.f a0 4).bind fun t262 => (if t261 < 1 then (switchboardref16_Import.j1 kj1 a0 t261 t262 true) else (if t261 > 8 then (switchboardref16_Import.j1 kj1 a0 t261 t262 true) else (if t262 < 1 then (switchboardref16_Import.j1 kj1 a0 t261 t262 true) else (if t262 > 8 then (switchboardref16_Import.j1 kj1 a0 t261 t262 true) else (switchboardref16_Import.j1 kj1 a0 t261 t262 ((a0.size : Int) != (wrap64 (12 + (wrap64 ((wrap64 (8 * t261)) * t262)))))))))))) else (some (([] : List (List Int)), ([] : List (List Int)), 0, 9))))) else (none)) else (none)) = some (r1, r2, r3, r4) := by rw [if_neg (show ¬ (false = true) by decide)] at H; exact H
        clear H
        have H := H1
        clear H1
        obtain ⟨ji7, hji7⟩ : ∃ j_ : Int, (wrap64 ((a0.size : Int) - 4)) = j_ := ⟨_, rfl⟩
        replace H : (if 0 ≤ (ji7) then (if (ji7) ≤ (a0.size : Int) then ((switchboardref06_Sum.f kj1 (a0.extract 0 ((ji7) : Int).toNat)).bind fun t259 => ((switchboardref16_four.f t259).bind fun t260 => (if t260.toList = (a0.extract ((ji7) : Int).toNat a0.size).toList then ((switchboardref16_at.f a0 0).bind fun t261 => ((switchboardref16_at.f a0 4).bind fun t262 => (if t261 < 1 then (switchboardref16_Import.j1 kj1 a0 t261 t262 true) else (if t261 > 8 then (switchboardref16_Import.j1 kj1 a0 t261 t262 true) else (if t262 < 1 then (switchboardref16_Import.j1 kj1 a0 t261 t262 true) else (if t262 > 8 then (switchboardref16_Import.j1 kj1 a0 t261 t262 true) else (switchboardref16_Import.j1 kj1 a0 t261 t262 ((a0.size : Int) != (wrap64 (12 + (wrap64 ((wrap64 (8 * t261)) * t262)))))))))))) else (some (([] : List (List Int)), ([] : List (List Int)), 0, 9))))) else (none)) else (none)) = some (r1, r2, r3, r4) := by first | (rw [hji7] at H; exact H) | (simp only [hji7] at H ⊢; exact H)
        have hji7w : (IntKind.i64.wrap ((a0.size : Int) - 4)) = ji7 := (i64_w _).trans hji7
        by_cases c8 : 0 ≤ (ji7)
        · rw [if_pos c8] at H
          have c8b0 := eq_true c8
          have c8b1 : decide (0 ≤ (ji7)) = true := decide_eq_true c8
          clear c8
          by_cases c9 : (ji7) ≤ (a0.size : Int)
          · rw [if_pos c9] at H
            have c9b0 := eq_true c9
            have c9b1 : decide ((ji7) ≤ (a0.size : Int)) = true := decide_eq_true c9
            clear c9
            replace H := Option.bind_eq_some_iff.mp H
            obtain ⟨t259, A100, H⟩ := H
            replace H : ((switchboardref16_four.f t259).bind fun t260 => (if t260.toList = (a0.extract ((ji7) : Int).toNat a0.size).toList then ((switchboardref16_at.f a0 0).bind fun t261 => ((switchboardref16_at.f a0 4).bind fun t262 => (if t261 < 1 then (switchboardref16_Import.j1 kj1 a0 t261 t262 true) else (if t261 > 8 then (switchboardref16_Import.j1 kj1 a0 t261 t262 true) else (if t262 < 1 then (switchboardref16_Import.j1 kj1 a0 t261 t262 true) else (if t262 > 8 then (switchboardref16_Import.j1 kj1 a0 t261 t262 true) else (switchboardref16_Import.j1 kj1 a0 t261 t262 ((a0.size : Int) != (wrap64 (12 + (wrap64 ((wrap64 (8 * t261)) * t262)))))))))))) else (some (([] : List (List Int)), ([] : List (List Int)), 0, 9)))) = some (r1, r2, r3, r4) := H
            have A10 := Aside0.mk A100
            clear A100
            replace H := Option.bind_eq_some_iff.mp H
            obtain ⟨t260, A110, H⟩ := H
            replace H : (if t260.toList = (a0.extract ((ji7) : Int).toNat a0.size).toList then ((switchboardref16_at.f a0 0).bind fun t261 => ((switchboardref16_at.f a0 4).bind fun t262 => (if t261 < 1 then (switchboardref16_Import.j1 kj1 a0 t261 t262 true) else (if t261 > 8 then (switchboardref16_Import.j1 kj1 a0 t261 t262 true) else (if t262 < 1 then (switchboardref16_Import.j1 kj1 a0 t261 t262 true) else (if t262 > 8 then (switchboardref16_Import.j1 kj1 a0 t261 t262 true) else (switchboardref16_Import.j1 kj1 a0 t261 t262 ((a0.size : Int) != (wrap64 (12 + (wrap64 ((wrap64 (8 * t261)) * t262)))))))))))) else (some (([] : List (List Int)), ([] : List (List Int)), 0, 9))) = some (r1, r2, r3, r4) := H
            have A11 := Aside0.mk A110
            clear A110
            have c12b0 := eq_true (of_decide_eq_true (by first | (with_reducible assumption) | assumption) : 0 ≤ (ji7))
            have c13b0 := eq_true (of_decide_eq_true (by first | (with_reducible assumption) | assumption) : (ji7) ≤ (a0.size : Int))
            by_cases c14 : t260.toList = (a0.extract ((ji7) : Int).toNat a0.size).toList
            · rw [if_pos c14] at H
              have c14b0 : (t260.toList == (a0.extract ((ji7) : Int).toNat a0.size).toList) = true := beq_iff_eq.mpr c14
              have c14b1 : (t260.toList != (a0.extract ((ji7) : Int).toNat a0.size).toList) = false := bne_eq_false_iff_eq.mpr c14
              clear c14
              replace H := Option.bind_eq_some_iff.mp H
              obtain ⟨t261, A150, H⟩ := H
              replace H : ((switchboardref16_at.f a0 4).bind fun t262 => (if t261 < 1 then (switchboardref16_Import.j1 kj1 a0 t261 t262 true) else (if t261 > 8 then (switchboardref16_Import.j1 kj1 a0 t261 t262 true) else (if t262 < 1 then (switchboardref16_Import.j1 kj1 a0 t261 t262 true) else (if t262 > 8 then (switchboardref16_Import.j1 kj1 a0 t261 t262 true) else (switchboardref16_Import.j1 kj1 a0 t261 t262 ((a0.size : Int) != (wrap64 (12 + (wrap64 ((wrap64 (8 * t261)) * t262))))))))))) = some (r1, r2, r3, r4) := H
              have A15 := Aside0.mk A150
              clear A150
              replace H := Option.bind_eq_some_iff.mp H
              obtain ⟨t262, A160, H⟩ := H
              replace H : (if t261 < 1 then (switchboardref16_Import.j1 kj1 a0 t261 t262 true) else (if t261 > 8 then (switchboardref16_Import.j1 kj1 a0 t261 t262 true) else (if t262 < 1 then (switchboardref16_Import.j1 kj1 a0 t261 t262 true) else (if t262 > 8 then (switchboardref16_Import.j1 kj1 a0 t261 t262 true) else (switchboardref16_Import.j1 kj1 a0 t261 t262 ((a0.size : Int) != (wrap64 (12 + (wrap64 ((wrap64 (8 * t261)) * t262)))))))))) = some (r1, r2, r3, r4) := H
              have A16 := Aside0.mk A160
              clear A160
              have HC17 := Aside0.mk H
              clear H
              try go_wp2
              have n0_ := Aside0.mk (blk_drew BK258.out)
              have n1_ := Aside0.mk (below_drew1 HB.out)
              clear BK258
              clear HB
              have BK258 := n0_
              have HB := n1_
              clear n0_ n1_
              refine start_ (n := 9) (S := fun w' => True) (ds := []) #[false, false, false, false, false, false, false, false, false] (by kernel_rfl) rfl rfl trivial (fun hHeld => ?_); refine with_tabW switchboardref16_Import.tab4 switchboardref16_Import.bits4 (fun HT_ HW_ => ?_)
              generalize wc.drew = w18 at BK258 HB hHeld ⊢
              refine pure_ (i := 0) (N := some 29) (v := ?_) (a' := ?_) #[true, false, false, false, false, false, false, false, false] rfl rfl (any_of HT_.out (by kernel_rfl)) (fun _ _ _ h => h) (Or.inl ⟨by rfl, ?_⟩) ?_ ?_
              rotate_left
              · intro w'
                go_simp
                with_reducible rfl
              rotate_left
              · simp only [Act.put, List.setIfInBounds_toArray, List.set_cons_zero, List.set_cons_succ, i64_w, i32_w]
                rfl
              refine pure_ (i := 1) (N := some 30) (v := ?_) (a' := ?_) #[true, true, false, false, false, false, false, false, false] rfl rfl (any_of HT_.out (by kernel_rfl)) (fun _ _ _ h => h) (Or.inl ⟨by rfl, ?_⟩) ?_ ?_
              rotate_left
              · intro w'
                go_simp
                with_reducible rfl
              rotate_left
              · simp only [Act.put, List.setIfInBounds_toArray, List.set_cons_zero, List.set_cons_succ, i64_w, i32_w]
                rfl
              refine pure_ (i := 2) (N := some 31) (v := ?_) (a' := ?_) #[true, true, true, false, false, false, false, false, false] rfl rfl (any_of HT_.out (by kernel_rfl)) (fun _ _ _ h => h) (Or.inl ⟨by rfl, ?_⟩) ?_ ?_
              rotate_left
              · intro w'
                go_simp
                with_reducible rfl
              rotate_left
              · simp only [Act.put, List.setIfInBounds_toArray, List.set_cons_zero, List.set_cons_succ, i64_w, i32_w]
                rfl
              refine pure_ (i := 5) (N := some 34) (v := ?_) (a' := ?_) #[true, true, true, false, false, true, false, false, false] rfl rfl (any_of HT_.out (by kernel_rfl)) (fun _ _ _ h => h) (Or.inl ⟨by rfl, ?_⟩) ?_ ?_
              rotate_left
              · intro w'
                go_simp
                with_reducible rfl
              rotate_left
              · simp only [Act.put, List.setIfInBounds_toArray, List.set_cons_zero, List.set_cons_succ, i64_w, i32_w]
                rfl
              refine pure_ (i := 6) (N := some 35) (v := ?_) (a' := ?_) #[true, true, true, false, false, true, true, false, false] rfl rfl (any_of HT_.out (by kernel_rfl)) (fun _ _ _ h => h) (Or.inl ⟨by rfl, ?_⟩) ?_ ?_
              rotate_left
              · intro w'
                go_simp
                with_reducible rfl
              rotate_left
              · simp only [Act.put, List.setIfInBounds_toArray, List.set_cons_zero, List.set_cons_succ, i64_w, i32_w]
                rfl
              refine pure_ (i := 7) (N := some 36) (v := ?_) (a' := ?_) #[true, true, true, false, false, true, true, true, false] rfl rfl (any_of HT_.out (by kernel_rfl)) (fun _ _ _ h => h) (Or.inl ⟨by rfl, ?_⟩) ?_ ?_
              rotate_left
              · intro w'
                go_simp
                with_reducible rfl
              rotate_left
              · simp only [Act.put, List.setIfInBounds_toArray, List.set_cons_zero, List.set_cons_succ, i64_w, i32_w]
                rfl
              refine one_ (i := 3) (N := some 32) #[true, true, true, true, false, true, true, true, false] rfl rfl (one_of HT_.out (by kernel_rfl)) (by decide) (fun K hK => ?_)
              refine goes_ Try.func29 (by kernel_rfl) rfl #[.string (a0.extract 0 ((ji7) : Int).toNat)] (by rfl) rfl rfl (by (try simp only [List.map_toArray, List.map_cons, List.map_nil]); first | done | (simp only [hji7]; rfl) | rfl | (simp only [ByteArray.size_append, Int.natCast_add, List.length_drop, List.length_take]; first | done | rfl) | (simp only [List.length_drop, List.length_take]; rfl)) ?_
              with_reducible refine (switchboardref06_Sum.calls kj1 (a0.extract 0 ((ji7) : Int).toNat) t259 _ A10.out).mono ?_
              rintro e w' ⟨rfl, ⟨nd, rfl⟩⟩
              refine ⟨_, rfl, ?_⟩
              refine hK.out _ _ trivial (fun hHeld => ?_)
              clear hK K
              refine norm_ (a' := ?_) ?_ ?_
              rotate_left
              · show Act.put _ (some 32) _ = _
                simp only [Act.put, List.setIfInBounds_toArray, List.set_cons_zero, List.set_cons_succ, i64_w, i32_w]
                rfl
              refine one_ (i := 4) (N := some 33) #[true, true, true, true, true, true, true, true, false] rfl rfl (one_of HT_.out (by kernel_rfl)) (by decide) (fun K hK => ?_)
              refine goes_ Try.func27 (by kernel_rfl) rfl #[.int .i64 t259] (by rfl) rfl rfl (by (try simp only [List.map_toArray, List.map_cons, List.map_nil]); first | done | rfl | (simp only [ByteArray.size_append, Int.natCast_add, List.length_drop, List.length_take]; first | done | rfl) | (simp only [List.length_drop, List.length_take]; rfl)) ?_
              with_reducible refine (switchboardref16_four.calls t259 t260 _ A11.out).mono ?_
              rintro e w19 ⟨rfl, hb⟩
              refine ⟨_, rfl, ?_⟩
              have n0_ := Aside0.mk (blk_below (g := gb258) (o := .cells #[.slice none 0 0, .slice none 0 0] 24 (0, 0)) (by (with_reducible repeat (first | refine blk_drewN ?_ _ | refine blk_drew ?_ | refine blk_alloc ?_ _)); exact BK258.out) hb)
              have n1_ := Aside0.mk (below_step (by repeat (first | (with_reducible first | exact HB.out | apply below_alloc | apply pw_below_drewN | apply below_drew1 | refine below_set ?_ GE258.out) | exact HB.out)) hb)
              clear BK258
              clear HB
              have BK258 := n0_
              have HB := n1_
              clear n0_ n1_
              (try clear hb)
              (try clear hb2)
              (try clear hk)
              (try clear hi)
              refine hK.out _ _ trivial (fun hHeld => ?_)
              clear hK K
              refine norm_ (a' := ?_) ?_ ?_
              rotate_left
              · show Act.put _ (some 33) _ = _
                simp only [Act.put, List.setIfInBounds_toArray, List.set_cons_zero, List.set_cons_succ, i64_w, i32_w]
                rfl
              refine pure_ (i := 8) (N := some 37) (v := ?_) (a' := ?_) #[true, true, true, true, true, true, true, true, true] rfl rfl (any_of HT_.out (by kernel_rfl)) (fun _ _ _ h => h) (Or.inl ⟨by rfl, ?_⟩) ?_ ?_
              rotate_left
              · intro w'
                go_simp
                with_reducible rfl
              rotate_left
              · simp only [Act.put, List.setIfInBounds_toArray, List.set_cons_zero, List.set_cons_succ, i64_w, i32_w]
                rfl
              refine done_ (done_of HT_.out (by kernel_rfl)) ?_
              go_upto_region 7 with (first | ((with_reducible refine gate_callee (f := 32) rfl ?_); refine goesL_ (some 40) rfl rfl Try.func32 (by kernel_rfl) rfl #[.string a0, .int .i64 0] rfl (by (try simp only [List.map_toArray, List.map_cons, List.map_nil]); first | done | rfl | (simp only [ByteArray.size_append, Int.natCast_add, List.length_drop, List.length_take]; first | done | rfl) | (simp only [List.length_drop, List.length_take]; rfl)) ?_; (with_reducible refine (switchboardref16_at.calls a0 0 t261 _ A15.out).mono ?_); rintro e w' ⟨rfl, ⟨nd, rfl⟩⟩; refine ⟨_, rfl, ?_⟩) | ((with_reducible refine gate_callee (f := 32) rfl ?_); refine goesL_ (some 42) rfl rfl Try.func32 (by kernel_rfl) rfl #[.string a0, .int .i64 4] rfl (by (try simp only [List.map_toArray, List.map_cons, List.map_nil]); first | done | rfl | (simp only [ByteArray.size_append, Int.natCast_add, List.length_drop, List.length_take]; first | done | rfl) | (simp only [List.length_drop, List.length_take]; rfl)) ?_; (with_reducible refine (switchboardref16_at.calls a0 4 t262 _ A16.out).mono ?_); rintro e w' ⟨rfl, ⟨nd, rfl⟩⟩; refine ⟨_, rfl, ?_⟩))
              (try simp only [Act.put, List.setIfInBounds_toArray, List.set_cons_zero, List.set_cons_succ])
              go_cut [66] (fun v66 wc => ∃ (kq : Nat) (x66_16 : Bool), v66 = .bool x66_16 ∧ Aside0 (switchboardref16_Import.j1 kq a0 t261 t262 x66_16 = some (r1, r2, r3, r4)) ∧ Aside0 (kq ≤ kj1) ∧ Aside0 (wc.heap[gb258]? = some (.cells #[(.slice none 0 0), (.slice none 0 0)] 24 (0, 0))) ∧ Aside0 (Below w.heap.size w wc))
              case first =>
                have H := HC17.out
                clear HC17
                by_cases c20 : t261 < 1
                · rw [if_pos c20] at H
                  have c20b0 : decide (t261 < 1) = true := decide_eq_true c20
                  clear c20
                  (first | rw [c20b0] | (simp only [i64_w, i32_w]; rw [c20b0]) | skip)
                  have H' := Aside0.mk H
                  clear H
                  go_wp2
                  go_meet
                  case rel => exact ⟨_, (true), (by first | rfl | (simp; done) | (simp [*]; done)), H', ⟨by have := HJ1.out; first | omega | exact Nat.le_refl _⟩, ⟨by (with_reducible repeat (first | refine blk_drewN ?_ _ | refine blk_drew ?_ | refine blk_alloc ?_ _)); exact BK258.out⟩, ⟨by repeat (first | (with_reducible first | exact HB.out | apply below_alloc | apply pw_below_drewN | apply below_drew1 | refine below_set ?_ GE258.out) | exact HB.out)⟩⟩
                · rw [if_neg c20] at H
                  have c20b0 : decide (t261 < 1) = false := decide_eq_false c20
                  clear c20
                  (first | rw [c20b0] | (simp only [i64_w, i32_w]; rw [c20b0]) | skip)
                  by_cases c21 : t261 > 8
                  · rw [if_pos c21] at H
                    have c21b0 : decide (8 < t261) = true := decide_eq_true c21
                    clear c21
                    have H' := Aside0.mk H
                    clear H
                    go_wp2
                    go_meet
                    case rel => exact ⟨_, (true), (by first | rfl | (simp; done) | (simp [*]; done)), H', ⟨by have := HJ1.out; first | omega | exact Nat.le_refl _⟩, ⟨by (with_reducible repeat (first | refine blk_drewN ?_ _ | refine blk_drew ?_ | refine blk_alloc ?_ _)); exact BK258.out⟩, ⟨by repeat (first | (with_reducible first | exact HB.out | apply below_alloc | apply pw_below_drewN | apply below_drew1 | refine below_set ?_ GE258.out) | exact HB.out)⟩⟩
                  · rw [if_neg c21] at H
                    have c21b0 : decide (8 < t261) = false := decide_eq_false c21
                    clear c21
                    by_cases c22 : t262 < 1
                    · rw [if_pos c22] at H
                      have c22b0 : decide (t262 < 1) = true := decide_eq_true c22
                      clear c22
                      have H' := Aside0.mk H
                      clear H
                      go_wp2
                      go_meet
                      case rel => exact ⟨_, (true), (by first | rfl | (simp; done) | (simp [*]; done)), H', ⟨by have := HJ1.out; first | omega | exact Nat.le_refl _⟩, ⟨by (with_reducible repeat (first | refine blk_drewN ?_ _ | refine blk_drew ?_ | refine blk_alloc ?_ _)); exact BK258.out⟩, ⟨by repeat (first | (with_reducible first | exact HB.out | apply below_alloc | apply pw_below_drewN | apply below_drew1 | refine below_set ?_ GE258.out) | exact HB.out)⟩⟩
                    · rw [if_neg c22] at H
                      have c22b0 : decide (t262 < 1) = false := decide_eq_false c22
                      clear c22
                      by_cases c23 : t262 > 8
                      · rw [if_pos c23] at H
                        have c23b0 : decide (8 < t262) = true := decide_eq_true c23
                        clear c23
                        have H' := Aside0.mk H
                        clear H
                        go_wp2
                        go_meet
                        case rel => exact ⟨_, (true), (by first | rfl | (simp; done) | (simp [*]; done)), H', ⟨by have := HJ1.out; first | omega | exact Nat.le_refl _⟩, ⟨by (with_reducible repeat (first | refine blk_drewN ?_ _ | refine blk_drew ?_ | refine blk_alloc ?_ _)); exact BK258.out⟩, ⟨by repeat (first | (with_reducible first | exact HB.out | apply below_alloc | apply pw_below_drewN | apply below_drew1 | refine below_set ?_ GE258.out) | exact HB.out)⟩⟩
                      · rw [if_neg c23] at H
                        have c23b0 : decide (8 < t262) = false := decide_eq_false c23
                        clear c23
                        have H' := Aside0.mk H
                        clear H
                        go_wp2
                        go_meet
                        case rel => exact ⟨_, (((a0.size : Int) != (wrap64 (12 + (wrap64 ((wrap64 (8 * t261)) * t262)))))), (by first | rfl | (simp; done) | (simp [*]; done)), H', ⟨by have := HJ1.out; first | omega | exact Nat.le_refl _⟩, ⟨by (with_reducible repeat (first | refine blk_drewN ?_ _ | refine blk_drew ?_ | refine blk_alloc ?_ _)); exact BK258.out⟩, ⟨by repeat (first | (with_reducible first | exact HB.out | apply below_alloc | apply pw_below_drewN | apply below_drew1 | refine below_set ?_ GE258.out) | exact HB.out)⟩⟩
              case rest =>
                clear HC17
                try clear c1
                try clear c2
                try clear p2
                try clear c3
                try clear c4
                try clear c4b0
                try clear c4b1
                try clear c5
                try clear p6
                try clear c8
                try clear c8b0
                try clear c8b1
                try clear c9
                try clear c9b0
                try clear c9b1
                try clear c12
                try clear c12b0
                try clear c13
                try clear c13b0
                try clear c14
                try clear c14b0
                try clear c14b1
                try clear c18
                try clear c20
                try clear c20b0
                try clear c21
                try clear c21b0
                try clear c22
                try clear c22b0
                try clear c23
                try clear c23b0
                try clear hcz6_0
                try clear hcz6_1
                try clear hfz6_0
                try clear hfz6_1
                try clear p2
                obtain ⟨kq, x66_16, rfl, HA, HJ16, BK258, HB⟩ := hcut
                cases kq with
                | zero => exact absurd HA.out (by simp [switchboardref16_Import.j1])
                | succ kj16 =>
                  have H := HA.out
                  clear HA
                  simp only [switchboardref16_Import.j1] at H
                  by_cases c24 : x66_16 = true
                  · subst c24
                    have H1 : (some (([] : List (List Int)), ([] : List (List Int)), 0, 2)) = some (r1, r2, r3, r4) := by rw [if_pos rfl] at H; exact H
                    clear H
                    have H := H1
                    clear H1
                    simp only [Option.some.injEq, Prod.mk.injEq] at H
                    obtain ⟨rfl, rfl, rfl, rfl⟩ := H
                    have hcz25_0 : wc.cell? ⟨gb258, 0, none⟩ = some (.slice none 0 0) := (blk_cell BK258.out 0).trans rfl
                    have hcz25_1 : wc.cell? ⟨gb258, 1, none⟩ = some (.slice none 0 0) := (blk_cell BK258.out 1).trans rfl
                    have hfz25_0 := blk_frozen BK258.out 0
                    have hfz25_1 := blk_frozen BK258.out 1
                    go_wp2
                    refine bodyPost_ret (results_ctt rfl _ _ gb258 24 #[.slice none 0 0, .slice none 0 0] (0, 0) _ rfl (by (with_reducible repeat (first | refine blk_drewN ?_ _ | refine blk_drew ?_ | refine blk_alloc ?_ _)); refine blk_put (cs := #[.slice none 0 0, .slice none 0 0]) ?_ 1 _ rfl; (with_reducible repeat (first | refine blk_drewN ?_ _ | refine blk_drew ?_ | refine blk_alloc ?_ _)); refine blk_put (cs := #[.slice none 0 0, .slice none 0 0]) ?_ 0 _ rfl; (with_reducible repeat (first | refine blk_drewN ?_ _ | refine blk_drew ?_ | refine blk_alloc ?_ _)); exact BK258.out) Try.underlying24 rfl (by kernel_rfl)) rfl ?_
                    exact ⟨_, _, by first | rfl | (simp [errW_none, errW_some] <;> rfl) | (simp only [← hji7]; first | rfl | (simp [errW_none, errW_some] <;> rfl)) | (simp [*, errW_none, errW_some] <;> rfl), by first | exact Kd.S_nil _ _ _ _ _ | exact Kd.N_nil _ _ _ _ _ | exact Kd.V_nil _ _ _ _ _ | exact Kd.Q_nil _ _ _ _ _ | exact Kd.R_nil _ _ _ _ _, by first | exact Kd.S_nil _ _ _ _ _ | exact Kd.N_nil _ _ _ _ _ | exact Kd.V_nil _ _ _ _ _ | exact Kd.Q_nil _ _ _ _ _ | exact Kd.R_nil _ _ _ _ _, by repeat (first | (with_reducible first | exact HB.out | apply below_alloc | apply pw_below_drewN | apply below_drew1 | refine below_set ?_ GE258.out) | exact HB.out)⟩
                  · replace c24 := Bool.eq_false_iff.mpr c24
                    subst c24
                    have H1 : (switchboardref16_Import.l0 kj16 a0 t261 t262 8 0 ([] : List (List Int))) = some (r1, r2, r3, r4) := by rw [if_neg (show ¬ (false = true) by decide)] at H; exact H
                    clear H
                    have H := H1
                    clear H1
                    have H' := Aside0.mk H
                    clear H
                    go_wp2_with (first | ((with_reducible refine gate_dst (N := 8) rfl ?_); (try (refine gate_guard (by rfl) ?_; dsimp only)); refine box_event ?hg (N := 8) ?hd (cs := #[.slice none 0 0, .slice none 0 0]) (t := 24) ?hr ?_; (case hd => rfl); (case hg => rfl); (case hr => first | (go_simp; done) | (go_simp; rfl)); intro gb263 hg w26 hbox hb; have n0_ := Aside0.mk (blk_below (g := gb258) (o := .cells #[.slice none 0 0, .slice none 0 0] 24 (0, 0)) (by (with_reducible repeat (first | refine blk_drewN ?_ _ | refine blk_drew ?_ | refine blk_alloc ?_ _)); exact BK258.out) hb); have n1_ := Aside0.mk (below_step (by repeat (first | (with_reducible first | exact HB.out | apply below_alloc | apply pw_below_drewN | apply below_drew1 | refine below_set ?_ GE258.out) | exact HB.out)) hb); have n2_ := Aside0.mk (hbox); have n3_ := Aside0.mk ((by rw [hg]; exact (below_size (by repeat (first | (with_reducible first | exact HB.out | apply below_alloc | apply pw_below_drewN | apply below_drew1 | refine below_set ?_ GE258.out) | exact HB.out))) : w.heap.size ≤ gb263)); have n4_ := Aside0.mk ((by rw [hg]; exact (below_size (by repeat (first | (with_reducible first | exact HB.out | apply below_alloc | apply pw_below_drewN | apply below_drew1 | refine below_set ?_ GE258.out) | exact HB.out))) : w.heap.size ≤ gb263)); have n5_ := Aside0.mk ((by rw [hg]; exact Nat.ne_of_lt (blk_lt (g := gb258) (o := .cells #[.slice none 0 0, .slice none 0 0] 24 (0, 0)) (by (with_reducible repeat (first | refine blk_drewN ?_ _ | refine blk_drew ?_ | refine blk_alloc ?_ _)); exact BK258.out)) : gb258 ≠ gb263)); have n6_ := Aside0.mk ((by rw [hg]; exact Nat.ne_of_gt (blk_lt (g := gb258) (o := .cells #[.slice none 0 0, .slice none 0 0] 24 (0, 0)) (by (with_reducible repeat (first | refine blk_drewN ?_ _ | refine blk_drew ?_ | refine blk_alloc ?_ _)); exact BK258.out)) : gb263 ≠ gb258)); clear BK258; clear HB; have BK258 := n0_; have HB := n1_; have BK263 := n2_; have GW263 := n3_; have GE263 := n4_; have NB258_263 := n5_; have NB263_258 := n6_; clear n0_ n1_ n2_ n3_ n4_ n5_ n6_; clear hb hbox hg; have hnb27 := NB263_258.out; have hnc27 := NB258_263.out; have hcz28_0 : w26.cell? ⟨gb263, 0, none⟩ = some (.slice none 0 0) := (blk_cell BK263.out 0).trans rfl; have hcz28_1 : w26.cell? ⟨gb263, 1, none⟩ = some (.slice none 0 0) := (blk_cell BK263.out 1).trans rfl; have hfz28_0 := blk_frozen BK263.out 0; have hfz28_1 := blk_frozen BK263.out 1))
                    go_loopg [9, 10] kj16 (fun kq v9 v10 w' => ∃ (x9_3 : Int) (x10_3 : Int) (x264000_3 : List (List Int)) (u264000 : Value), v9 = .int .i64 x9_3 ∧ v10 = .int .i64 x10_3 ∧ Aside0 (switchboardref16_Import.l0 kq a0 t261 t262 x9_3 x10_3 x264000_3 = some (r1, r2, r3, r4)) ∧ Aside0 (kq ≤ kj16) ∧ Aside0 (Kd.S (Kd.slice 3 (Kd.int .i64)) 49 w' w.heap.size (fun _ => True) u264000 x264000_3) ∧ Aside0 (w'.heap[gb258]? = some (.cells #[(.slice none 0 0), (.slice none 0 0)] 24 (0, 0))) ∧ Aside0 (w'.heap[gb263]? = some (.cells #[u264000, (.slice none 0 0)] 24 (0, 0))) ∧ Aside0 (Below w.heap.size w w'))
                    case atStart => exact ⟨(8), (0), (([] : List (List Int))), (.slice none 0 0), (by first | rfl | (simp; done) | (simp [*]; done)), (by first | rfl | (simp; done) | (simp [*]; done)), H', ⟨Nat.le_refl _⟩, ⟨by first | exact Kd.S_nil _ _ _ _ _ | exact Kd.N_nil _ _ _ _ _ | exact Kd.V_nil _ _ _ _ _ | exact Kd.Q_nil _ _ _ _ _ | exact Kd.R_nil _ _ _ _ _⟩, ⟨by (with_reducible repeat (first | refine blk_drewN ?_ _ | refine blk_drew ?_ | refine blk_alloc ?_ _)); refine blk_far ?_ NB258_263.out _; (with_reducible repeat (first | refine blk_drewN ?_ _ | refine blk_drew ?_ | refine blk_alloc ?_ _)); refine blk_far ?_ NB258_263.out _; (with_reducible repeat (first | refine blk_drewN ?_ _ | refine blk_drew ?_ | refine blk_alloc ?_ _)); exact BK258.out⟩, ⟨by (with_reducible repeat (first | refine blk_drewN ?_ _ | refine blk_drew ?_ | refine blk_alloc ?_ _)); refine blk_put (cs := #[.slice none 0 0, .slice none 0 0]) ?_ 1 _ rfl; (with_reducible repeat (first | refine blk_drewN ?_ _ | refine blk_drew ?_ | refine blk_alloc ?_ _)); refine blk_put (cs := #[.slice none 0 0, .slice none 0 0]) ?_ 0 _ rfl; (with_reducible repeat (first | refine blk_drewN ?_ _ | refine blk_drew ?_ | refine blk_alloc ?_ _)); exact BK263.out⟩, ⟨by repeat (first | (with_reducible first | exact HB.out | apply below_alloc | apply pw_below_drewN | apply below_drew1 | refine below_set ?_ GE258.out | refine below_set ?_ GE263.out) | exact HB.out)⟩⟩
                    case round =>
                      clear H'
                      try clear c1
                      try clear c2
                      try clear p2
                      try clear c3
                      try clear c4
                      try clear c4b0
                      try clear c4b1
                      try clear c5
                      try clear p6
                      try clear c8
                      try clear c8b0
                      try clear c8b1
                      try clear c9
                      try clear c9b0
                      try clear c9b1
                      try clear c12
                      try clear c12b0
                      try clear c13
                      try clear c13b0
                      try clear c14
                      try clear c14b0
                      try clear c14b1
                      try clear c18
                      try clear c20
                      try clear c20b0
                      try clear c21
                      try clear c21b0
                      try clear c22
                      try clear c22b0
                      try clear c23
                      try clear c23b0
                      try clear c24
                      try clear c27
                      try clear hcz25_0
                      try clear hcz25_1
                      try clear hcz28_0
                      try clear hcz28_1
                      try clear hcz6_0
                      try clear hcz6_1
                      try clear hfz25_0
                      try clear hfz25_1
                      try clear hfz28_0
                      try clear hfz28_1
                      try clear hfz6_0
                      try clear hfz6_1
                      try clear p2
                      try clear p6
                      obtain ⟨x9_3, x10_3, x264000_3, u264000, rfl, rfl, HA, HK3, HO_264000, BK258, BK263, HB⟩ := hrel
                      cases gk with
                      | zero => exact absurd HA.out (by simp [switchboardref16_Import.l0])
                      | succ k3 =>
                        have H := HA.out
                        clear HA
                        simp only [switchboardref16_Import.l0] at H
                        by_cases c29 : x10_3 < t261
                        · rw [if_pos c29] at H
                          have c29b0 : decide (x10_3 < t261) = true := decide_eq_true c29
                          clear c29
                          have H' := Aside0.mk H
                          clear H
                          go_wp2
                          go_loopg [9, 11, 12] k3 (fun kq v9 v11 v12 w' => ∃ (x9_4 : Int) (x11_4 : List Int) (x12_4 : Int), v9 = .int .i64 x9_4 ∧ v12 = .int .i64 x12_4 ∧ Aside0 (switchboardref16_Import.l1 kq a0 t261 t262 x9_4 x10_3 x11_4 x12_4 x264000_3 = some (r1, r2, r3, r4)) ∧ Aside0 (kq ≤ k3) ∧ Aside0 (Kd.R (Kd.int .i64) 3 w' w.heap.size (fun _ => True) v11 x11_4) ∧ Aside0 (Kd.S (Kd.slice 3 (Kd.int .i64)) 49 w' w.heap.size (fun k_ => some k_ ≠ (v11 : Value).ownBlock) u264000 x264000_3) ∧ Aside0 (w'.heap[gb258]? = some (.cells #[(.slice none 0 0), (.slice none 0 0)] 24 (0, 0))) ∧ Aside0 (w'.heap[gb263]? = some (.cells #[u264000, (.slice none 0 0)] 24 (0, 0))) ∧ Aside0 (Below w.heap.size w w'))
                          case atStart => exact ⟨(x9_3), (([] : List Int)), (0), (by first | rfl | (simp; done) | (simp [*]; done)), (by first | rfl | (simp; done) | (simp [*]; done)), H', ⟨Nat.le_refl _⟩, ⟨by first | exact Kd.R_nil _ _ _ _ _ | exact Kd.N_nil _ _ _ _ _ | exact Kd.V_nil _ _ _ _ _ | exact Kd.Q_nil _ _ _ _ _ | exact Kd.S_nil _ _ _ _ _⟩, ⟨by (with_reducible repeat (first | apply Kd.S_alloc | apply Kd.S_drewN | apply Kd.S_drew)); exact Kd.S_mono HO_264000.out (fun _ hk => (by simp [Value.ownBlock]))⟩, ⟨by (with_reducible repeat (first | refine blk_drewN ?_ _ | refine blk_drew ?_ | refine blk_alloc ?_ _)); exact BK258.out⟩, ⟨by (with_reducible repeat (first | refine blk_drewN ?_ _ | refine blk_drew ?_ | refine blk_alloc ?_ _)); exact BK263.out⟩, ⟨by repeat (first | (with_reducible first | exact HB.out | apply below_alloc | apply pw_below_drewN | apply below_drew1 | refine below_set ?_ GE258.out | refine below_set ?_ GE263.out) | exact HB.out)⟩⟩
                          case round =>
                            clear H'
                            try clear c1
                            try clear c2
                            try clear p2
                            try clear c3
                            try clear c4
                            try clear c4b0
                            try clear c4b1
                            try clear c5
                            try clear p6
                            try clear c8
                            try clear c8b0
                            try clear c8b1
                            try clear c9
                            try clear c9b0
                            try clear c9b1
                            try clear c12
                            try clear c12b0
                            try clear c13
                            try clear c13b0
                            try clear c14
                            try clear c14b0
                            try clear c14b1
                            try clear c18
                            try clear c20
                            try clear c20b0
                            try clear c21
                            try clear c21b0
                            try clear c22
                            try clear c22b0
                            try clear c23
                            try clear c23b0
                            try clear c24
                            try clear c27
                            try clear c29
                            try clear c29b0
                            try clear hcz25_0
                            try clear hcz25_1
                            try clear hcz28_0
                            try clear hcz28_1
                            try clear hcz6_0
                            try clear hcz6_1
                            try clear hfz25_0
                            try clear hfz25_1
                            try clear hfz28_0
                            try clear hfz28_1
                            try clear hfz6_0
                            try clear hfz6_1
                            try clear p2
                            try clear p6
                            obtain ⟨x9_4, x11_4, x12_4, rfl, rfl, HA, HK4, HO_11, HO_264000, BK258, BK263, HB⟩ := hrel
                            cases gk with
                            | zero => exact absurd HA.out (by simp [switchboardref16_Import.l1])
                            | succ k4 =>
                              have H := HA.out
                              clear HA
                              simp only [switchboardref16_Import.l1] at H
                              by_cases c30 : x12_4 < t262
                              · rw [if_pos c30] at H
                                have c30b0 : decide (x12_4 < t262) = true := decide_eq_true c30
                                clear c30
                                replace H := Option.bind_eq_some_iff.mp H
                                obtain ⟨t264, A310, H⟩ := H
                                replace H : (if x11_4.length < 17592186044416 then (switchboardref16_Import.l1 k4 a0 t261 t262 (wrap64 (x9_4 + 4)) x10_3 (x11_4 ++ [t264]) (wrap64 (x12_4 + 1)) x264000_3) else (none)) = some (r1, r2, r3, r4) := H
                                have A31 := Aside0.mk A310
                                clear A310
                                by_cases c32 : x11_4.length < 17592186044416
                                · rw [if_pos c32] at H
                                  have LMc32 := Aside0.mk c32
                                  clear c32
                                  obtain ⟨y265, hy265⟩ : ∃ y_ : List Int, y_ = (x11_4 ++ [t264]) := ⟨_, rfl⟩
                                  replace H : (switchboardref16_Import.l1 k4 a0 t261 t262 (wrap64 (x9_4 + 4)) x10_3 y265 (wrap64 (x12_4 + 1)) x264000_3) = some (r1, r2, r3, r4) := by first | (rw [hy265]; with_reducible exact H) | (have H2_ := (Option.bind_some _ _).symm.trans H; rw [hy265]; with_reducible exact H2_) | (have H2_ := (Option.bind_some _ _).symm.trans H; with_reducible exact H2_) | with_reducible exact H | (rw [hy265]; exact H) | exact H
                                  have Ny265 := Aside0.mk hy265
                                  clear hy265
                                  have H' := Aside0.mk H
                                  clear H
                                  go_wp2_with (first | ((with_reducible refine gate_callee (f := 32) rfl ?_); refine goesL_ (some 82) rfl rfl Try.func32 (by kernel_rfl) rfl #[.string a0, .int .i64 x9_4] rfl (by (try simp only [List.map_toArray, List.map_cons, List.map_nil]); first | done | rfl | (simp only [ByteArray.size_append, Int.natCast_add, List.length_drop, List.length_take]; first | done | rfl) | (simp only [List.length_drop, List.length_take]; rfl)) ?_; (with_reducible refine (switchboardref16_at.calls a0 x9_4 t264 _ A31.out).mono ?_); rintro e w' ⟨rfl, ⟨nd, rfl⟩⟩; refine ⟨_, rfl, ?_⟩) | ((with_reducible refine gate_builtin (b := .append) (xs := #[.tmp 79, .tmp 83]) rfl ?_); (try (refine gate_guard (by rfl) ?_; dsimp only)); at_builtin; refine Kd.R_append (Kd.int .i64) (w0 := w) w.heap.size rfl (.tmp 79) (.tmp 83) 49 3 (.int .i64 0) 8 rfl Try.underlying49 info3 rfl (by decide) (by omega) u11 x11_4 t264 [.int .i64 t264] (fun _ => True) (fun _ => False) rfl rfl ?aP (fun _ hk => hk.elim) ?aF ?aO ?aB ?aS ?aL ?_; (case aP => exact rfl); (case aB => exact (by repeat (first | (with_reducible first | exact HB.out | apply below_alloc | apply pw_below_drewN | apply below_drew1 | refine below_set ?_ GE258.out | refine below_set ?_ GE263.out) | exact HB.out))); (case aF => exact (fun _ _ => trivial)); (case aO => exact (by (with_reducible repeat (first | apply Kd.R_alloc | apply Kd.R_drewN | apply Kd.R_drew)); exact HO_11.out)); (case aS => exact (below_size (by repeat (first | (with_reducible first | exact HB.out | apply below_alloc | apply pw_below_drewN | apply below_drew1 | refine below_set ?_ GE258.out | refine below_set ?_ GE263.out) | exact HB.out)))); (case aL => have := LMc32.out; omega); intro v266 w33 ho hb hg hat; rw [← Ny265.out] at ho; have n0_ := Aside0.mk (Kd.S_after (ok := (fun _ => True)) (by (with_reducible repeat (first | apply Kd.S_alloc | apply Kd.S_drewN | apply Kd.S_drew)); exact Kd.S_mono HO_264000.out (fun _ hk => ⟨trivial, hk⟩)) hg hat); have n1_ := Aside0.mk (blk_grown (g := gb258) (o := .cells #[.slice none 0 0, .slice none 0 0] 24 (0, 0)) (by (with_reducible repeat (first | refine blk_drewN ?_ _ | refine blk_drew ?_ | refine blk_alloc ?_ _)); exact BK258.out) hg (Kd.R_ne HO_11.out BK258.out (by decide))); have n2_ := Aside0.mk (blk_grown (g := gb263) (o := .cells #[u264000, .slice none 0 0] 24 (0, 0)) (by (with_reducible repeat (first | refine blk_drewN ?_ _ | refine blk_drew ?_ | refine blk_alloc ?_ _)); exact BK263.out) hg (Kd.R_ne HO_11.out BK263.out (by decide))); have n3_ := Aside0.mk (hb); have n4_ := Aside0.mk (ho); clear HO_264000; clear BK258; clear BK263; clear HB; clear HO_11; have HO_264000 := n0_; have BK258 := n1_; have BK263 := n2_; have HB := n3_; have HO267 := n4_; clear n0_ n1_ n2_ n3_ n4_; clear ho hb hg hat))
                                  go_roundg k4
                                  case measure => have := HJ1.out; have := HJ16.out; have := HK3.out; have := HK4.out; omega
                                  case rel => exact ⟨(wrap64 (x9_4 + 4)), (y265), (wrap64 (x12_4 + 1)), (by first | rfl | (simp; done) | (simp [*]; done)), (by first | rfl | (simp; done) | (simp [*]; done)), H', ⟨by have := HJ1.out; have := HJ16.out; have := HK3.out; have := HK4.out; omega⟩, ⟨by (with_reducible repeat (first | apply Kd.R_alloc | apply Kd.R_drewN | apply Kd.R_drew)); exact HO267.out⟩, ⟨by (with_reducible repeat (first | apply Kd.S_alloc | apply Kd.S_drewN | apply Kd.S_drew)); exact Kd.S_mono HO_264000.out (fun _ hk => hk.2)⟩, ⟨by (with_reducible repeat (first | refine blk_drewN ?_ _ | refine blk_drew ?_ | refine blk_alloc ?_ _)); exact BK258.out⟩, ⟨by (with_reducible repeat (first | refine blk_drewN ?_ _ | refine blk_drew ?_ | refine blk_alloc ?_ _)); exact BK263.out⟩, ⟨by repeat (first | (with_reducible first | exact HB.out | apply below_alloc | apply pw_below_drewN | apply below_drew1 | refine below_set ?_ GE258.out | refine below_set ?_ GE263.out) | exact HB.out)⟩⟩
                                · rw [if_neg c32] at H
                                  exact absurd H (by simp)
                              · rw [if_neg c30] at H
                                have c30b0 : decide (x12_4 < t262) = false := decide_eq_false c30
                                clear c30
                                by_cases c34 : x264000_3.length < 5864062014805
                                · rw [if_pos c34] at H
                                  have LMc34 := Aside0.mk c34
                                  clear c34
                                  obtain ⟨y268, hy268⟩ : ∃ y_ : List (List Int), y_ = (x264000_3 ++ [x11_4]) := ⟨_, rfl⟩
                                  replace H : (switchboardref16_Import.l0 k4 a0 t261 t262 x9_4 (wrap64 (x10_3 + 1)) y268) = some (r1, r2, r3, r4) := by first | (rw [hy268]; with_reducible exact H) | (have H2_ := (Option.bind_some _ _).symm.trans H; rw [hy268]; with_reducible exact H2_) | (have H2_ := (Option.bind_some _ _).symm.trans H; with_reducible exact H2_) | with_reducible exact H | (rw [hy268]; exact H) | exact H
                                  have Ny268 := Aside0.mk hy268
                                  clear hy268
                                  have H' := Aside0.mk H
                                  clear H
                                  have hnb35 := NB263_258.out
                                  have hnc35 := NB258_263.out
                                  have hcz36_0 : wr.cell? ⟨gb263, 0, none⟩ = some (u264000) := (blk_cell BK263.out 0).trans rfl
                                  have hcz36_1 : wr.cell? ⟨gb263, 1, none⟩ = some (.slice none 0 0) := (blk_cell BK263.out 1).trans rfl
                                  have hfz36_0 := blk_frozen BK263.out 0
                                  have hfz36_1 := blk_frozen BK263.out 1
                                  obtain ⟨Ao38, co38, eo38⟩ := Kd.R_slice HO_11.out
                                  subst eo38
                                  go_wp2_with (first | ((with_reducible refine gate_builtin (b := .append) (xs := #[.tmp 88, .tmp 90]) rfl ?_); (try (refine gate_guard (by rfl) ?_; dsimp only)); at_builtin; refine Kd.S_append (Kd.slice 3 (Kd.int .i64)) (w0 := w) w.heap.size rfl (.tmp 88) (.tmp 90) 22 49 (.slice none 0 0) 24 rfl Try.underlying22 info49 rfl (by decide) (by omega) u264000 x264000_3 x11_4 [.slice Ao38 x11_4.length co38] (fun _ => True) (fun k_ => some k_ = (.slice Ao38 x11_4.length co38 : Value).ownBlock) rfl rfl ?aP (fun k_ hk_ => ((Kd.R_mono (ok' := fun k_ => ((fun _ => True)) k_ ∧ some k_ ≠ (u264000 : Value).ownBlock) (Kd.R_apart' (HO_11.out) (Kd.S_typed HO_264000.out) (by decide)) (fun k_ hk => ⟨trivial, hk.2⟩))).1 k_ hk_.symm) ?aF ?aO ?aB ?aS ?aL ?_; (case aP => exact Kd.M_row (Kd.R_mono (Kd.R_tight rfl (Kd.R_mono (ok' := fun k_ => ((fun _ => True)) k_ ∧ some k_ ≠ (u264000 : Value).ownBlock) (Kd.R_apart' (HO_11.out) (Kd.S_typed HO_264000.out) (by decide)) (fun k_ hk => ⟨trivial, hk.2⟩))) (fun _ h_ => h_))); (case aB => exact (by repeat (first | (with_reducible first | exact HB.out | apply below_alloc | apply pw_below_drewN | apply below_drew1 | refine below_set ?_ GE258.out | refine below_set ?_ GE263.out) | exact HB.out))); (case aF => exact (fun _ _ => trivial)); (case aO => exact (by (with_reducible repeat (first | apply Kd.S_alloc | apply Kd.S_drewN | apply Kd.S_drew)); exact Kd.S_mono HO_264000.out (fun k_ hk => ⟨trivial, fun e_ => hk e_⟩))); (case aS => exact (below_size (by repeat (first | (with_reducible first | exact HB.out | apply below_alloc | apply pw_below_drewN | apply below_drew1 | refine below_set ?_ GE258.out | refine below_set ?_ GE263.out) | exact HB.out)))); (case aL => have := LMc34.out; omega); intro v269 w37 ho hb hg hat; rw [← Ny268.out] at ho; have n0_ := Aside0.mk (blk_grown (g := gb258) (o := .cells #[.slice none 0 0, .slice none 0 0] 24 (0, 0)) (by (with_reducible repeat (first | refine blk_drewN ?_ _ | refine blk_drew ?_ | refine blk_alloc ?_ _)); exact BK258.out) hg (Kd.S_ne HO_264000.out BK258.out (by decide))); have n1_ := Aside0.mk (blk_grown (g := gb263) (o := .cells #[u264000, .slice none 0 0] 24 (0, 0)) (by (with_reducible repeat (first | refine blk_drewN ?_ _ | refine blk_drew ?_ | refine blk_alloc ?_ _)); exact BK263.out) hg (Kd.S_ne HO_264000.out BK263.out (by decide))); have n2_ := Aside0.mk (hb); have n3_ := Aside0.mk (ho); clear BK258; clear BK263; clear HB; clear HO_264000; clear HO_11; have BK258 := n0_; have BK263 := n1_; have HB := n2_; have HO270 := n3_; clear n0_ n1_ n2_ n3_; clear ho hb hg hat; obtain ⟨Ao39, co39, eo39⟩ := Kd.S_slice HO270.out; subst eo39; have hcz40_0 : w37.cell? ⟨gb263, 0, none⟩ = some (u264000) := (blk_cell BK263.out 0).trans rfl; have hcz40_1 : w37.cell? ⟨gb263, 1, none⟩ = some (.slice none 0 0) := (blk_cell BK263.out 1).trans rfl; have hfz40_0 := blk_frozen BK263.out 0; have hfz40_1 := blk_frozen BK263.out 1))
                                  go_roundg k4
                                  case measure => have := HJ1.out; have := HJ16.out; have := HK3.out; have := HK4.out; omega
                                  case rel => exact ⟨(x9_4), (wrap64 (x10_3 + 1)), (y268), (.slice Ao39 y268.length co39), (by first | rfl | (simp; done) | (simp [*]; done)), (by first | rfl | (simp; done) | (simp [*]; done)), H', ⟨by have := HJ1.out; have := HJ16.out; have := HK3.out; have := HK4.out; omega⟩, ⟨by (with_reducible repeat (first | apply Kd.S_alloc | apply Kd.S_drewN | apply Kd.S_drew)); exact Kd.S_mono (Kd.S_far (p := ⟨gb263, 0, none⟩) (Kd.S_types HO270.out BK263.out (by decide)) (fun _ hk => hk.2) (.slice Ao39 y268.length co39)) (fun _ hk => trivial)⟩, ⟨by (with_reducible repeat (first | refine blk_drewN ?_ _ | refine blk_drew ?_ | refine blk_alloc ?_ _)); refine blk_far ?_ NB258_263.out _; (with_reducible repeat (first | refine blk_drewN ?_ _ | refine blk_drew ?_ | refine blk_alloc ?_ _)); exact BK258.out⟩, ⟨by (with_reducible repeat (first | refine blk_drewN ?_ _ | refine blk_drew ?_ | refine blk_alloc ?_ _)); refine blk_put (cs := #[u264000, .slice none 0 0]) ?_ 0 _ rfl; (with_reducible repeat (first | refine blk_drewN ?_ _ | refine blk_drew ?_ | refine blk_alloc ?_ _)); exact BK263.out⟩, ⟨by repeat (first | (with_reducible first | exact HB.out | apply below_alloc | apply pw_below_drewN | apply below_drew1 | refine below_set ?_ GE258.out | refine below_set ?_ GE263.out) | exact HB.out)⟩⟩
                                · rw [if_neg c34] at H
                                  exact absurd H (by simp)
                        · rw [if_neg c29] at H
                          have c29b0 : decide (x10_3 < t261) = false := decide_eq_false c29
                          clear c29
                          have H' := Aside0.mk H
                          clear H
                          go_wp2
                          go_loopg [9, 13] k3 (fun kq v9 v13 w' => ∃ (x9_4 : Int) (x13_4 : Int) (x264001_4 : List (List Int)) (u264001 : Value), v9 = .int .i64 x9_4 ∧ v13 = .int .i64 x13_4 ∧ Aside0 (switchboardref16_Import.l2 kq a0 t261 t262 x9_4 x13_4 x264000_3 x264001_4 = some (r1, r2, r3, r4)) ∧ Aside0 (kq ≤ k3) ∧ Aside0 (Kd.S (Kd.slice 3 (Kd.int .i64)) 49 w' w.heap.size (fun k_ => some k_ ≠ (u264001 : Value).ownBlock) u264000 x264000_3) ∧ Aside0 (Kd.S (Kd.slice 3 (Kd.int .i64)) 49 w' w.heap.size (fun k_ => some k_ ≠ (u264000 : Value).ownBlock) u264001 x264001_4) ∧ Aside0 (w'.heap[gb258]? = some (.cells #[(.slice none 0 0), (.slice none 0 0)] 24 (0, 0))) ∧ Aside0 (w'.heap[gb263]? = some (.cells #[u264000, u264001] 24 (0, 0))) ∧ Aside0 (Below w.heap.size w w'))
                          case atStart => exact ⟨(x9_3), (0), (([] : List (List Int))), (.slice none 0 0), (by first | rfl | (simp; done) | (simp [*]; done)), (by first | rfl | (simp; done) | (simp [*]; done)), H', ⟨Nat.le_refl _⟩, ⟨by (with_reducible repeat (first | apply Kd.S_alloc | apply Kd.S_drewN | apply Kd.S_drew)); exact Kd.S_mono HO_264000.out (fun _ hk => (by simp [Value.ownBlock]))⟩, ⟨by first | exact Kd.S_nil _ _ _ _ _ | exact Kd.N_nil _ _ _ _ _ | exact Kd.V_nil _ _ _ _ _ | exact Kd.Q_nil _ _ _ _ _ | exact Kd.R_nil _ _ _ _ _⟩, ⟨by (with_reducible repeat (first | refine blk_drewN ?_ _ | refine blk_drew ?_ | refine blk_alloc ?_ _)); exact BK258.out⟩, ⟨by (with_reducible repeat (first | refine blk_drewN ?_ _ | refine blk_drew ?_ | refine blk_alloc ?_ _)); exact BK263.out⟩, ⟨by repeat (first | (with_reducible first | exact HB.out | apply below_alloc | apply pw_below_drewN | apply below_drew1 | refine below_set ?_ GE258.out | refine below_set ?_ GE263.out) | exact HB.out)⟩⟩
                          case round =>
                            clear H'
                            try clear c1
                            try clear c2
                            try clear p2
                            try clear c3
                            try clear c4
                            try clear c4b0
                            try clear c4b1
                            try clear c5
                            try clear p6
                            try clear c8
                            try clear c8b0
                            try clear c8b1
                            try clear c9
                            try clear c9b0
                            try clear c9b1
                            try clear c12
                            try clear c12b0
                            try clear c13
                            try clear c13b0
                            try clear c14
                            try clear c14b0
                            try clear c14b1
                            try clear c18
                            try clear c20
                            try clear c20b0
                            try clear c21
                            try clear c21b0
                            try clear c22
                            try clear c22b0
                            try clear c23
                            try clear c23b0
                            try clear c24
                            try clear c27
                            try clear c29
                            try clear c29b0
                            try clear c30
                            try clear c30b0
                            try clear c32
                            try clear c34
                            try clear c35
                            try clear hcz25_0
                            try clear hcz25_1
                            try clear hcz28_0
                            try clear hcz28_1
                            try clear hcz36_0
                            try clear hcz36_1
                            try clear hcz40_0
                            try clear hcz40_1
                            try clear hcz6_0
                            try clear hcz6_1
                            try clear hfz25_0
                            try clear hfz25_1
                            try clear hfz28_0
                            try clear hfz28_1
                            try clear hfz36_0
                            try clear hfz36_1
                            try clear hfz40_0
                            try clear hfz40_1
                            try clear hfz6_0
                            try clear hfz6_1
                            try clear p2
                            try clear p6
                            obtain ⟨x9_4, x13_4, x264001_4, u264001, rfl, rfl, HA, HK4, HO_264000, HO_264001, BK258, BK263, HB⟩ := hrel
                            cases gk with
                            | zero => exact absurd HA.out (by simp [switchboardref16_Import.l2])
                            | succ k4 =>
                              have H := HA.out
                              clear HA
                              simp only [switchboardref16_Import.l2] at H
                              by_cases c41 : x13_4 < t262
                              · rw [if_pos c41] at H
                                have c41b0 : decide (x13_4 < t262) = true := decide_eq_true c41
                                clear c41
                                have H' := Aside0.mk H
                                clear H
                                go_wp2
                                go_loopg [9, 14, 15] k4 (fun kq v9 v14 v15 w' => ∃ (x9_5 : Int) (x14_5 : List Int) (x15_5 : Int), v9 = .int .i64 x9_5 ∧ v15 = .int .i64 x15_5 ∧ Aside0 (switchboardref16_Import.l3 kq a0 t261 t262 x9_5 x13_4 x14_5 x15_5 x264000_3 x264001_4 = some (r1, r2, r3, r4)) ∧ Aside0 (kq ≤ k4) ∧ Aside0 (Kd.R (Kd.int .i64) 3 w' w.heap.size (fun _ => True) v14 x14_5) ∧ Aside0 (Kd.S (Kd.slice 3 (Kd.int .i64)) 49 w' w.heap.size (fun k_ => some k_ ≠ (v14 : Value).ownBlock ∧ some k_ ≠ (u264001 : Value).ownBlock) u264000 x264000_3) ∧ Aside0 (Kd.S (Kd.slice 3 (Kd.int .i64)) 49 w' w.heap.size (fun k_ => some k_ ≠ (v14 : Value).ownBlock ∧ some k_ ≠ (u264000 : Value).ownBlock) u264001 x264001_4) ∧ Aside0 (w'.heap[gb258]? = some (.cells #[(.slice none 0 0), (.slice none 0 0)] 24 (0, 0))) ∧ Aside0 (w'.heap[gb263]? = some (.cells #[u264000, u264001] 24 (0, 0))) ∧ Aside0 (Below w.heap.size w w'))
                                case atStart => exact ⟨(x9_4), (([] : List Int)), (0), (by first | rfl | (simp; done) | (simp [*]; done)), (by first | rfl | (simp; done) | (simp [*]; done)), H', ⟨Nat.le_refl _⟩, ⟨by first | exact Kd.R_nil _ _ _ _ _ | exact Kd.N_nil _ _ _ _ _ | exact Kd.V_nil _ _ _ _ _ | exact Kd.Q_nil _ _ _ _ _ | exact Kd.S_nil _ _ _ _ _⟩, ⟨by (with_reducible repeat (first | apply Kd.S_alloc | apply Kd.S_drewN | apply Kd.S_drew)); exact Kd.S_mono HO_264000.out (fun _ hk => ⟨(by simp [Value.ownBlock]), hk⟩)⟩, ⟨by (with_reducible repeat (first | apply Kd.S_alloc | apply Kd.S_drewN | apply Kd.S_drew)); exact Kd.S_mono HO_264001.out (fun _ hk => ⟨(by simp [Value.ownBlock]), hk⟩)⟩, ⟨by (with_reducible repeat (first | refine blk_drewN ?_ _ | refine blk_drew ?_ | refine blk_alloc ?_ _)); exact BK258.out⟩, ⟨by (with_reducible repeat (first | refine blk_drewN ?_ _ | refine blk_drew ?_ | refine blk_alloc ?_ _)); exact BK263.out⟩, ⟨by repeat (first | (with_reducible first | exact HB.out | apply below_alloc | apply pw_below_drewN | apply below_drew1 | refine below_set ?_ GE258.out | refine below_set ?_ GE263.out) | exact HB.out)⟩⟩
                                case round =>
                                  clear H'
                                  try clear c1
                                  try clear c2
                                  try clear p2
                                  try clear c3
                                  try clear c4
                                  try clear c4b0
                                  try clear c4b1
                                  try clear c5
                                  try clear p6
                                  try clear c8
                                  try clear c8b0
                                  try clear c8b1
                                  try clear c9
                                  try clear c9b0
                                  try clear c9b1
                                  try clear c12
                                  try clear c12b0
                                  try clear c13
                                  try clear c13b0
                                  try clear c14
                                  try clear c14b0
                                  try clear c14b1
                                  try clear c18
                                  try clear c20
                                  try clear c20b0
                                  try clear c21
                                  try clear c21b0
                                  try clear c22
                                  try clear c22b0
                                  try clear c23
                                  try clear c23b0
                                  try clear c24
                                  try clear c27
                                  try clear c29
                                  try clear c29b0
                                  try clear c30
                                  try clear c30b0
                                  try clear c32
                                  try clear c34
                                  try clear c35
                                  try clear c41
                                  try clear c41b0
                                  try clear hcz25_0
                                  try clear hcz25_1
                                  try clear hcz28_0
                                  try clear hcz28_1
                                  try clear hcz36_0
                                  try clear hcz36_1
                                  try clear hcz40_0
                                  try clear hcz40_1
                                  try clear hcz6_0
                                  try clear hcz6_1
                                  try clear hfz25_0
                                  try clear hfz25_1
                                  try clear hfz28_0
                                  try clear hfz28_1
                                  try clear hfz36_0
                                  try clear hfz36_1
                                  try clear hfz40_0
                                  try clear hfz40_1
                                  try clear hfz6_0
                                  try clear hfz6_1
                                  try clear p2
                                  try clear p6
                                  obtain ⟨x9_5, x14_5, x15_5, rfl, rfl, HA, HK5, HO_14, HO_264000, HO_264001, BK258, BK263, HB⟩ := hrel
                                  cases gk with
                                  | zero => exact absurd HA.out (by simp [switchboardref16_Import.l3])
                                  | succ k5 =>
                                    have H := HA.out
                                    clear HA
                                    simp only [switchboardref16_Import.l3] at H
                                    by_cases c42 : x15_5 < t261
                                    · rw [if_pos c42] at H
                                      have c42b0 : decide (x15_5 < t261) = true := decide_eq_true c42
                                      clear c42
                                      replace H := Option.bind_eq_some_iff.mp H
                                      obtain ⟨t272, A430, H⟩ := H
                                      replace H : (if x14_5.length < 17592186044416 then (switchboardref16_Import.l3 k5 a0 t261 t262 (wrap64 (x9_5 + 4)) x13_4 (x14_5 ++ [t272]) (wrap64 (x15_5 + 1)) x264000_3 x264001_4) else (none)) = some (r1, r2, r3, r4) := H
                                      have A43 := Aside0.mk A430
                                      clear A430
                                      by_cases c44 : x14_5.length < 17592186044416
                                      · rw [if_pos c44] at H
                                        have LMc44 := Aside0.mk c44
                                        clear c44
                                        obtain ⟨y273, hy273⟩ : ∃ y_ : List Int, y_ = (x14_5 ++ [t272]) := ⟨_, rfl⟩
                                        replace H : (switchboardref16_Import.l3 k5 a0 t261 t262 (wrap64 (x9_5 + 4)) x13_4 y273 (wrap64 (x15_5 + 1)) x264000_3 x264001_4) = some (r1, r2, r3, r4) := by first | (rw [hy273]; with_reducible exact H) | (have H2_ := (Option.bind_some _ _).symm.trans H; rw [hy273]; with_reducible exact H2_) | (have H2_ := (Option.bind_some _ _).symm.trans H; with_reducible exact H2_) | with_reducible exact H | (rw [hy273]; exact H) | exact H
                                        have Ny273 := Aside0.mk hy273
                                        clear hy273
                                        have H' := Aside0.mk H
                                        clear H
                                        go_wp2_with (first | ((with_reducible refine gate_callee (f := 32) rfl ?_); refine goesL_ (some 106) rfl rfl Try.func32 (by kernel_rfl) rfl #[.string a0, .int .i64 x9_5] rfl (by (try simp only [List.map_toArray, List.map_cons, List.map_nil]); first | done | rfl | (simp only [ByteArray.size_append, Int.natCast_add, List.length_drop, List.length_take]; first | done | rfl) | (simp only [List.length_drop, List.length_take]; rfl)) ?_; (with_reducible refine (switchboardref16_at.calls a0 x9_5 t272 _ A43.out).mono ?_); rintro e w' ⟨rfl, ⟨nd, rfl⟩⟩; refine ⟨_, rfl, ?_⟩) | ((with_reducible refine gate_builtin (b := .append) (xs := #[.tmp 103, .tmp 107]) rfl ?_); (try (refine gate_guard (by rfl) ?_; dsimp only)); at_builtin; refine Kd.R_append (Kd.int .i64) (w0 := w) w.heap.size rfl (.tmp 103) (.tmp 107) 49 3 (.int .i64 0) 8 rfl Try.underlying49 info3 rfl (by decide) (by omega) u14 x14_5 t272 [.int .i64 t272] (fun _ => True) (fun _ => False) rfl rfl ?aP (fun _ hk => hk.elim) ?aF ?aO ?aB ?aS ?aL ?_; (case aP => exact rfl); (case aB => exact (by repeat (first | (with_reducible first | exact HB.out | apply below_alloc | apply pw_below_drewN | apply below_drew1 | refine below_set ?_ GE258.out | refine below_set ?_ GE263.out) | exact HB.out))); (case aF => exact (fun _ _ => trivial)); (case aO => exact (by (with_reducible repeat (first | apply Kd.R_alloc | apply Kd.R_drewN | apply Kd.R_drew)); exact HO_14.out)); (case aS => exact (below_size (by repeat (first | (with_reducible first | exact HB.out | apply below_alloc | apply pw_below_drewN | apply below_drew1 | refine below_set ?_ GE258.out | refine below_set ?_ GE263.out) | exact HB.out)))); (case aL => have := LMc44.out; omega); intro v274 w45 ho hb hg hat; rw [← Ny273.out] at ho; have n0_ := Aside0.mk (Kd.S_after (ok := (fun k_ => some k_ ≠ (u264001 : Value).ownBlock)) (by (with_reducible repeat (first | apply Kd.S_alloc | apply Kd.S_drewN | apply Kd.S_drew)); exact Kd.S_mono HO_264000.out (fun _ hk => ⟨hk.2, hk.1⟩)) hg hat); have n1_ := Aside0.mk (Kd.S_after (ok := (fun k_ => some k_ ≠ (u264000 : Value).ownBlock)) (by (with_reducible repeat (first | apply Kd.S_alloc | apply Kd.S_drewN | apply Kd.S_drew)); exact Kd.S_mono HO_264001.out (fun _ hk => ⟨hk.2, hk.1⟩)) hg hat); have n2_ := Aside0.mk (blk_grown (g := gb258) (o := .cells #[.slice none 0 0, .slice none 0 0] 24 (0, 0)) (by (with_reducible repeat (first | refine blk_drewN ?_ _ | refine blk_drew ?_ | refine blk_alloc ?_ _)); exact BK258.out) hg (Kd.R_ne HO_14.out BK258.out (by decide))); have n3_ := Aside0.mk (blk_grown (g := gb263) (o := .cells #[u264000, u264001] 24 (0, 0)) (by (with_reducible repeat (first | refine blk_drewN ?_ _ | refine blk_drew ?_ | refine blk_alloc ?_ _)); exact BK263.out) hg (Kd.R_ne HO_14.out BK263.out (by decide))); have n4_ := Aside0.mk (hb); have n5_ := Aside0.mk (ho); clear HO_264000; clear HO_264001; clear BK258; clear BK263; clear HB; clear HO_14; have HO_264000 := n0_; have HO_264001 := n1_; have BK258 := n2_; have BK263 := n3_; have HB := n4_; have HO275 := n5_; clear n0_ n1_ n2_ n3_ n4_ n5_; clear ho hb hg hat))
                                        go_roundg k5
                                        case measure => have := HJ1.out; have := HJ16.out; have := HK3.out; have := HK4.out; have := HK5.out; omega
                                        case rel => exact ⟨(wrap64 (x9_5 + 4)), (y273), (wrap64 (x15_5 + 1)), (by first | rfl | (simp; done) | (simp [*]; done)), (by first | rfl | (simp; done) | (simp [*]; done)), H', ⟨by have := HJ1.out; have := HJ16.out; have := HK3.out; have := HK4.out; have := HK5.out; omega⟩, ⟨by (with_reducible repeat (first | apply Kd.R_alloc | apply Kd.R_drewN | apply Kd.R_drew)); exact HO275.out⟩, ⟨by (with_reducible repeat (first | apply Kd.S_alloc | apply Kd.S_drewN | apply Kd.S_drew)); exact Kd.S_mono HO_264000.out (fun _ hk => ⟨hk.2, hk.1⟩)⟩, ⟨by (with_reducible repeat (first | apply Kd.S_alloc | apply Kd.S_drewN | apply Kd.S_drew)); exact Kd.S_mono HO_264001.out (fun _ hk => ⟨hk.2, hk.1⟩)⟩, ⟨by (with_reducible repeat (first | refine blk_drewN ?_ _ | refine blk_drew ?_ | refine blk_alloc ?_ _)); exact BK258.out⟩, ⟨by (with_reducible repeat (first | refine blk_drewN ?_ _ | refine blk_drew ?_ | refine blk_alloc ?_ _)); exact BK263.out⟩, ⟨by repeat (first | (with_reducible first | exact HB.out | apply below_alloc | apply pw_below_drewN | apply below_drew1 | refine below_set ?_ GE258.out | refine below_set ?_ GE263.out) | exact HB.out)⟩⟩
                                      · rw [if_neg c44] at H
                                        exact absurd H (by simp)
                                    · rw [if_neg c42] at H
                                      have c42b0 : decide (x15_5 < t261) = false := decide_eq_false c42
                                      clear c42
                                      by_cases c46 : x264001_4.length < 5864062014805
                                      · rw [if_pos c46] at H
                                        have LMc46 := Aside0.mk c46
                                        clear c46
                                        obtain ⟨y276, hy276⟩ : ∃ y_ : List (List Int), y_ = (x264001_4 ++ [x14_5]) := ⟨_, rfl⟩
                                        replace H : (switchboardref16_Import.l2 k5 a0 t261 t262 x9_5 (wrap64 (x13_4 + 1)) x264000_3 y276) = some (r1, r2, r3, r4) := by first | (rw [hy276]; with_reducible exact H) | (have H2_ := (Option.bind_some _ _).symm.trans H; rw [hy276]; with_reducible exact H2_) | (have H2_ := (Option.bind_some _ _).symm.trans H; with_reducible exact H2_) | with_reducible exact H | (rw [hy276]; exact H) | exact H
                                        have Ny276 := Aside0.mk hy276
                                        clear hy276
                                        have H' := Aside0.mk H
                                        clear H
                                        have hnb47 := NB263_258.out
                                        have hnc47 := NB258_263.out
                                        have hcz48_0 : wr.cell? ⟨gb263, 0, none⟩ = some (u264000) := (blk_cell BK263.out 0).trans rfl
                                        have hcz48_1 : wr.cell? ⟨gb263, 1, none⟩ = some (u264001) := (blk_cell BK263.out 1).trans rfl
                                        have hfz48_0 := blk_frozen BK263.out 0
                                        have hfz48_1 := blk_frozen BK263.out 1
                                        obtain ⟨Ao50, co50, eo50⟩ := Kd.R_slice HO_14.out
                                        subst eo50
                                        go_wp2_with (first | ((with_reducible refine gate_builtin (b := .append) (xs := #[.tmp 112, .tmp 114]) rfl ?_); (try (refine gate_guard (by rfl) ?_; dsimp only)); at_builtin; refine Kd.S_append (Kd.slice 3 (Kd.int .i64)) (w0 := w) w.heap.size rfl (.tmp 112) (.tmp 114) 22 49 (.slice none 0 0) 24 rfl Try.underlying22 info49 rfl (by decide) (by omega) u264001 x264001_4 x14_5 [.slice Ao50 x14_5.length co50] (fun k_ => some k_ ≠ (u264000 : Value).ownBlock) (fun k_ => some k_ = (.slice Ao50 x14_5.length co50 : Value).ownBlock) rfl rfl ?aP (fun k_ hk_ => ((Kd.R_mono (ok' := fun k_ => ((fun k_ => some k_ ≠ (u264000 : Value).ownBlock)) k_ ∧ some k_ ≠ (u264001 : Value).ownBlock) (Kd.R_apart' (Kd.R_apart' (HO_14.out) (Kd.S_typed HO_264000.out) (by decide)) (Kd.S_typed HO_264001.out) (by decide)) (fun k_ hk => ⟨hk.1.2, hk.2⟩))).1 k_ hk_.symm) ?aF ?aO ?aB ?aS ?aL ?_; (case aP => exact Kd.M_row (Kd.R_mono (Kd.R_tight rfl (Kd.R_mono (ok' := fun k_ => ((fun k_ => some k_ ≠ (u264000 : Value).ownBlock)) k_ ∧ some k_ ≠ (u264001 : Value).ownBlock) (Kd.R_apart' (Kd.R_apart' (HO_14.out) (Kd.S_typed HO_264000.out) (by decide)) (Kd.S_typed HO_264001.out) (by decide)) (fun k_ hk => ⟨hk.1.2, hk.2⟩))) (fun _ h_ => h_))); (case aB => exact (by repeat (first | (with_reducible first | exact HB.out | apply below_alloc | apply pw_below_drewN | apply below_drew1 | refine below_set ?_ GE258.out | refine below_set ?_ GE263.out) | exact HB.out))); (case aF => exact (fun k_ hk => Kd.fresh' (Kd.S_lt (by (with_reducible repeat (first | apply Kd.S_alloc | apply Kd.S_drewN | apply Kd.S_drew)); exact HO_264000.out)) k_ hk)); (case aO => exact (by (with_reducible repeat (first | apply Kd.S_alloc | apply Kd.S_drewN | apply Kd.S_drew)); exact Kd.S_mono HO_264001.out (fun k_ hk => ⟨hk.2, fun e_ => hk.1 e_⟩))); (case aS => exact (below_size (by repeat (first | (with_reducible first | exact HB.out | apply below_alloc | apply pw_below_drewN | apply below_drew1 | refine below_set ?_ GE258.out | refine below_set ?_ GE263.out) | exact HB.out)))); (case aL => have := LMc46.out; omega); intro v277 w49 ho hb hg hat; rw [← Ny276.out] at ho; have n0_ := Aside0.mk (Kd.S_after (ok := (fun k_ => some k_ ≠ (.slice Ao50 x14_5.length co50 : Value).ownBlock)) (by (with_reducible repeat (first | apply Kd.S_alloc | apply Kd.S_drewN | apply Kd.S_drew)); exact HO_264000.out) hg hat); have n1_ := Aside0.mk (blk_grown (g := gb258) (o := .cells #[.slice none 0 0, .slice none 0 0] 24 (0, 0)) (by (with_reducible repeat (first | refine blk_drewN ?_ _ | refine blk_drew ?_ | refine blk_alloc ?_ _)); exact BK258.out) hg (Kd.S_ne HO_264001.out BK258.out (by decide))); have n2_ := Aside0.mk (blk_grown (g := gb263) (o := .cells #[u264000, u264001] 24 (0, 0)) (by (with_reducible repeat (first | refine blk_drewN ?_ _ | refine blk_drew ?_ | refine blk_alloc ?_ _)); exact BK263.out) hg (Kd.S_ne HO_264001.out BK263.out (by decide))); have n3_ := Aside0.mk (hb); have n4_ := Aside0.mk (ho); clear HO_264000; clear BK258; clear BK263; clear HB; clear HO_264001; clear HO_14; have HO_264000 := n0_; have BK258 := n1_; have BK263 := n2_; have HB := n3_; have HO278 := n4_; clear n0_ n1_ n2_ n3_ n4_; clear ho hb hg hat; obtain ⟨Ao51, co51, eo51⟩ := Kd.S_slice HO278.out; subst eo51; have hcz52_0 : w49.cell? ⟨gb263, 0, none⟩ = some (u264000) := (blk_cell BK263.out 0).trans rfl; have hcz52_1 : w49.cell? ⟨gb263, 1, none⟩ = some (u264001) := (blk_cell BK263.out 1).trans rfl; have hfz52_0 := blk_frozen BK263.out 0; have hfz52_1 := blk_frozen BK263.out 1))
                                        go_roundg k5
                                        case measure => have := HJ1.out; have := HJ16.out; have := HK3.out; have := HK4.out; have := HK5.out; omega
                                        case rel => exact ⟨(x9_5), (wrap64 (x13_4 + 1)), (y276), (.slice Ao51 y276.length co51), (by first | rfl | (simp; done) | (simp [*]; done)), (by first | rfl | (simp; done) | (simp [*]; done)), H', ⟨by have := HJ1.out; have := HJ16.out; have := HK3.out; have := HK4.out; have := HK5.out; omega⟩, ⟨by (with_reducible repeat (first | apply Kd.S_alloc | apply Kd.S_drewN | apply Kd.S_drew)); exact Kd.S_mono (Kd.S_far (p := ⟨gb263, 1, none⟩) (Kd.S_types HO_264000.out BK263.out (by decide)) (fun _ hk => hk.2) (.slice Ao51 y276.length co51)) (fun _ hk => hk.1.2)⟩, ⟨by (with_reducible repeat (first | apply Kd.S_alloc | apply Kd.S_drewN | apply Kd.S_drew)); exact Kd.S_mono (Kd.S_far (p := ⟨gb263, 1, none⟩) (Kd.S_types HO278.out BK263.out (by decide)) (fun _ hk => hk.2) (.slice Ao51 y276.length co51)) (fun _ hk => hk.1)⟩, ⟨by (with_reducible repeat (first | refine blk_drewN ?_ _ | refine blk_drew ?_ | refine blk_alloc ?_ _)); refine blk_far ?_ NB258_263.out _; (with_reducible repeat (first | refine blk_drewN ?_ _ | refine blk_drew ?_ | refine blk_alloc ?_ _)); exact BK258.out⟩, ⟨by (with_reducible repeat (first | refine blk_drewN ?_ _ | refine blk_drew ?_ | refine blk_alloc ?_ _)); refine blk_put (cs := #[u264000, u264001]) ?_ 1 _ rfl; (with_reducible repeat (first | refine blk_drewN ?_ _ | refine blk_drew ?_ | refine blk_alloc ?_ _)); exact BK263.out⟩, ⟨by repeat (first | (with_reducible first | exact HB.out | apply below_alloc | apply pw_below_drewN | apply below_drew1 | refine below_set ?_ GE258.out | refine below_set ?_ GE263.out) | exact HB.out)⟩⟩
                                      · rw [if_neg c46] at H
                                        exact absurd H (by simp)
                              · rw [if_neg c41] at H
                                have c41b0 : decide (x13_4 < t262) = false := decide_eq_false c41
                                clear c41
                                replace H := Option.bind_eq_some_iff.mp H
                                obtain ⟨t271, A530, H⟩ := H
                                replace H : (if t271 = true then (some (x264000_3, x264001_4, t262, 0)) else (some (([] : List (List Int)), ([] : List (List Int)), 0, 2))) = some (r1, r2, r3, r4) := H
                                have A53 := Aside0.mk A530
                                clear A530
                                by_cases c54 : t271 = true
                                · subst c54
                                  have H1 : (some (x264000_3, x264001_4, t262, 0)) = some (r1, r2, r3, r4) := by rw [if_pos rfl] at H; exact H
                                  clear H
                                  have H := H1
                                  clear H1
                                  simp only [Option.some.injEq, Prod.mk.injEq] at H
                                  obtain ⟨rfl, rfl, rfl, rfl⟩ := H
                                  have hnb55 := NB263_258.out
                                  have hnc55 := NB258_263.out
                                  have hcz56_0 : wr.cell? ⟨gb263, 0, none⟩ = some (u264000) := (blk_cell BK263.out 0).trans rfl
                                  have hcz56_1 : wr.cell? ⟨gb263, 1, none⟩ = some (u264001) := (blk_cell BK263.out 1).trans rfl
                                  have hfz56_0 := blk_frozen BK263.out 0
                                  have hfz56_1 := blk_frozen BK263.out 1
                                  obtain ⟨Ao57, co57, eo57⟩ := Kd.S_slice HO_264000.out
                                  subst eo57
                                  obtain ⟨Ao58, co58, eo58⟩ := Kd.S_slice HO_264001.out
                                  subst eo58
                                  go_wp2_with (first | ((with_reducible refine gate_callee (f := 15) rfl ?_); refine goesL_ (some 119) rfl rfl Try.func15 (by kernel_rfl) rfl #[.agg #[.slice Ao57 x264000_3.length co57, .slice Ao58 x264001_4.length co58], .int .i64 t262] rfl (by (try simp only [List.map_toArray, List.map_cons, List.map_nil]); first | done | rfl | (simp only [ByteArray.size_append, Int.natCast_add, List.length_drop, List.length_take]; first | done | rfl) | (simp only [List.length_drop, List.length_take]; rfl)) ?_; (with_reducible refine (switchboardref11_Right.calls k4 _ _ x264000_3 _ _ x264001_4 t262 true _ ?side1 ?side2 ?side3 ?side4 A53.out).mono ?_); (case side1 => repeat (first | exact (Kd.S_reads' HO_264000.out).2.2 | (with_reducible refine Kd.C_alloc ?_ _) | (with_reducible refine Kd.C_drewN ?_ _) | (with_reducible refine Kd.C_drew ?_))); (case side2 => exact (Kd.S_reads' HO_264000.out).2.1); (case side3 => repeat (first | exact (Kd.S_reads' HO_264001.out).2.2 | (with_reducible refine Kd.C_alloc ?_ _) | (with_reducible refine Kd.C_drewN ?_ _) | (with_reducible refine Kd.C_drew ?_))); (case side4 => exact (Kd.S_reads' HO_264001.out).2.1); rintro e w59 ⟨rfl, hb⟩; refine ⟨_, rfl, ?_⟩; have n0_ := Aside0.mk (Kd.S_below (by (with_reducible repeat (first | apply Kd.S_alloc | apply Kd.S_drewN | apply Kd.S_drew)); exact HO_264000.out) hb); have n1_ := Aside0.mk (Kd.S_below (by (with_reducible repeat (first | apply Kd.S_alloc | apply Kd.S_drewN | apply Kd.S_drew)); exact HO_264001.out) hb); have n2_ := Aside0.mk (blk_below (g := gb258) (o := .cells #[.slice none 0 0, .slice none 0 0] 24 (0, 0)) (by (with_reducible repeat (first | refine blk_drewN ?_ _ | refine blk_drew ?_ | refine blk_alloc ?_ _)); exact BK258.out) hb); have n3_ := Aside0.mk (blk_below (g := gb263) (o := .cells #[.slice Ao57 x264000_3.length co57, .slice Ao58 x264001_4.length co58] 24 (0, 0)) (by (with_reducible repeat (first | refine blk_drewN ?_ _ | refine blk_drew ?_ | refine blk_alloc ?_ _)); exact BK263.out) hb); have n4_ := Aside0.mk (below_step (by repeat (first | (with_reducible first | exact HB.out | apply below_alloc | apply pw_below_drewN | apply below_drew1 | refine below_set ?_ GE258.out | refine below_set ?_ GE263.out) | exact HB.out)) hb); clear HO_264000; clear HO_264001; clear BK258; clear BK263; clear HB; have HO_264000 := n0_; have HO_264001 := n1_; have BK258 := n2_; have BK263 := n3_; have HB := n4_; clear n0_ n1_ n2_ n3_ n4_; (try clear hb); (try clear hb2); (try clear hk); (try clear hi); have hcz60_0 : w59.cell? ⟨gb263, 0, none⟩ = some (.slice Ao57 x264000_3.length co57) := (blk_cell BK263.out 0).trans rfl; have hcz60_1 : w59.cell? ⟨gb263, 1, none⟩ = some (.slice Ao58 x264001_4.length co58) := (blk_cell BK263.out 1).trans rfl; have hfz60_0 := blk_frozen BK263.out 0; have hfz60_1 := blk_frozen BK263.out 1; have hcz61_0 : w59.cell? ⟨gb258, 0, none⟩ = some (.slice none 0 0) := (blk_cell BK258.out 0).trans rfl; have hcz61_1 : w59.cell? ⟨gb258, 1, none⟩ = some (.slice none 0 0) := (blk_cell BK258.out 1).trans rfl; have hfz61_0 := blk_frozen BK258.out 0; have hfz61_1 := blk_frozen BK258.out 1))
                                  refine bodyPost_ret (results_ctt rfl _ _ gb258 24 #[.slice Ao57 x264000_3.length co57, .slice Ao58 x264001_4.length co58] (0, 0) _ rfl (by (with_reducible repeat (first | refine blk_drewN ?_ _ | refine blk_drew ?_ | refine blk_alloc ?_ _)); refine blk_put (cs := #[.slice Ao57 x264000_3.length co57, .slice none 0 0]) ?_ 1 _ rfl; (with_reducible repeat (first | refine blk_drewN ?_ _ | refine blk_drew ?_ | refine blk_alloc ?_ _)); refine blk_put (cs := #[.slice none 0 0, .slice none 0 0]) ?_ 0 _ rfl; (with_reducible repeat (first | refine blk_drewN ?_ _ | refine blk_drew ?_ | refine blk_alloc ?_ _)); exact BK258.out) Try.underlying24 rfl (by kernel_rfl)) rfl ?_
                                  exact ⟨_, _, by first | rfl | (simp [errW_none, errW_some] <;> rfl) | (simp only [← hji7]; first | rfl | (simp [errW_none, errW_some] <;> rfl)) | (simp [*, errW_none, errW_some] <;> rfl), by (with_reducible repeat (first | apply Kd.S_alloc | apply Kd.S_drewN | apply Kd.S_drew)); exact Kd.S_mono (Kd.S_far (p := ⟨gb258, 1, none⟩) (Kd.S_far (p := ⟨gb258, 0, none⟩) (Kd.S_types HO_264000.out BK258.out (by decide)) (fun _ hk => hk.2) (.slice Ao57 x264000_3.length co57)) (fun _ hk => hk.2) (.slice Ao58 x264001_4.length co58)) (fun _ hk => hk.1), by (with_reducible repeat (first | apply Kd.S_alloc | apply Kd.S_drewN | apply Kd.S_drew)); exact Kd.S_mono (Kd.S_far (p := ⟨gb258, 1, none⟩) (Kd.S_far (p := ⟨gb258, 0, none⟩) (Kd.S_types HO_264001.out BK258.out (by decide)) (fun _ hk => hk.2) (.slice Ao57 x264000_3.length co57)) (fun _ hk => hk.2) (.slice Ao58 x264001_4.length co58)) (fun _ hk => hk.1), by repeat (first | (with_reducible first | exact HB.out | apply below_alloc | apply pw_below_drewN | apply below_drew1 | refine below_set ?_ GE258.out | refine below_set ?_ GE263.out) | exact HB.out)⟩
                                · replace c54 := Bool.eq_false_iff.mpr c54
                                  subst c54
                                  have H1 : (some (([] : List (List Int)), ([] : List (List Int)), 0, 2)) = some (r1, r2, r3, r4) := by rw [if_neg (show ¬ (false = true) by decide)] at H; exact H
                                  clear H
                                  have H := H1
                                  clear H1
                                  simp only [Option.some.injEq, Prod.mk.injEq] at H
                                  obtain ⟨rfl, rfl, rfl, rfl⟩ := H
                                  have hnb62 := NB263_258.out
                                  have hnc62 := NB258_263.out
                                  have hcz63_0 : wr.cell? ⟨gb263, 0, none⟩ = some (u264000) := (blk_cell BK263.out 0).trans rfl
                                  have hcz63_1 : wr.cell? ⟨gb263, 1, none⟩ = some (u264001) := (blk_cell BK263.out 1).trans rfl
                                  have hfz63_0 := blk_frozen BK263.out 0
                                  have hfz63_1 := blk_frozen BK263.out 1
                                  obtain ⟨Ao64, co64, eo64⟩ := Kd.S_slice HO_264000.out
                                  subst eo64
                                  obtain ⟨Ao65, co65, eo65⟩ := Kd.S_slice HO_264001.out
                                  subst eo65
                                  go_wp2_with (first | ((with_reducible refine gate_callee (f := 15) rfl ?_); refine goesL_ (some 119) rfl rfl Try.func15 (by kernel_rfl) rfl #[.agg #[.slice Ao64 x264000_3.length co64, .slice Ao65 x264001_4.length co65], .int .i64 t262] rfl (by (try simp only [List.map_toArray, List.map_cons, List.map_nil]); first | done | rfl | (simp only [ByteArray.size_append, Int.natCast_add, List.length_drop, List.length_take]; first | done | rfl) | (simp only [List.length_drop, List.length_take]; rfl)) ?_; (with_reducible refine (switchboardref11_Right.calls k4 _ _ x264000_3 _ _ x264001_4 t262 false _ ?side1 ?side2 ?side3 ?side4 A53.out).mono ?_); (case side1 => repeat (first | exact (Kd.S_reads' HO_264000.out).2.2 | (with_reducible refine Kd.C_alloc ?_ _) | (with_reducible refine Kd.C_drewN ?_ _) | (with_reducible refine Kd.C_drew ?_))); (case side2 => exact (Kd.S_reads' HO_264000.out).2.1); (case side3 => repeat (first | exact (Kd.S_reads' HO_264001.out).2.2 | (with_reducible refine Kd.C_alloc ?_ _) | (with_reducible refine Kd.C_drewN ?_ _) | (with_reducible refine Kd.C_drew ?_))); (case side4 => exact (Kd.S_reads' HO_264001.out).2.1); rintro e w66 ⟨rfl, hb⟩; refine ⟨_, rfl, ?_⟩; have n0_ := Aside0.mk (Kd.S_below (by (with_reducible repeat (first | apply Kd.S_alloc | apply Kd.S_drewN | apply Kd.S_drew)); exact HO_264000.out) hb); have n1_ := Aside0.mk (Kd.S_below (by (with_reducible repeat (first | apply Kd.S_alloc | apply Kd.S_drewN | apply Kd.S_drew)); exact HO_264001.out) hb); have n2_ := Aside0.mk (blk_below (g := gb258) (o := .cells #[.slice none 0 0, .slice none 0 0] 24 (0, 0)) (by (with_reducible repeat (first | refine blk_drewN ?_ _ | refine blk_drew ?_ | refine blk_alloc ?_ _)); exact BK258.out) hb); have n3_ := Aside0.mk (blk_below (g := gb263) (o := .cells #[.slice Ao64 x264000_3.length co64, .slice Ao65 x264001_4.length co65] 24 (0, 0)) (by (with_reducible repeat (first | refine blk_drewN ?_ _ | refine blk_drew ?_ | refine blk_alloc ?_ _)); exact BK263.out) hb); have n4_ := Aside0.mk (below_step (by repeat (first | (with_reducible first | exact HB.out | apply below_alloc | apply pw_below_drewN | apply below_drew1 | refine below_set ?_ GE258.out | refine below_set ?_ GE263.out) | exact HB.out)) hb); clear HO_264000; clear HO_264001; clear BK258; clear BK263; clear HB; have HO_264000 := n0_; have HO_264001 := n1_; have BK258 := n2_; have BK263 := n3_; have HB := n4_; clear n0_ n1_ n2_ n3_ n4_; (try clear hb); (try clear hb2); (try clear hk); (try clear hi); have hcz67_0 : w66.cell? ⟨gb258, 0, none⟩ = some (.slice none 0 0) := (blk_cell BK258.out 0).trans rfl; have hcz67_1 : w66.cell? ⟨gb258, 1, none⟩ = some (.slice none 0 0) := (blk_cell BK258.out 1).trans rfl; have hfz67_0 := blk_frozen BK258.out 0; have hfz67_1 := blk_frozen BK258.out 1))
                                  refine bodyPost_ret (results_ctt rfl _ _ gb258 24 #[.slice none 0 0, .slice none 0 0] (0, 0) _ rfl (by (with_reducible repeat (first | refine blk_drewN ?_ _ | refine blk_drew ?_ | refine blk_alloc ?_ _)); refine blk_put (cs := #[.slice none 0 0, .slice none 0 0]) ?_ 1 _ rfl; (with_reducible repeat (first | refine blk_drewN ?_ _ | refine blk_drew ?_ | refine blk_alloc ?_ _)); refine blk_put (cs := #[.slice none 0 0, .slice none 0 0]) ?_ 0 _ rfl; (with_reducible repeat (first | refine blk_drewN ?_ _ | refine blk_drew ?_ | refine blk_alloc ?_ _)); exact BK258.out) Try.underlying24 rfl (by kernel_rfl)) rfl ?_
                                  exact ⟨_, _, by first | rfl | (simp [errW_none, errW_some] <;> rfl) | (simp only [← hji7]; first | rfl | (simp [errW_none, errW_some] <;> rfl)) | (simp [*, errW_none, errW_some] <;> rfl), by first | exact Kd.S_nil _ _ _ _ _ | exact Kd.N_nil _ _ _ _ _ | exact Kd.V_nil _ _ _ _ _ | exact Kd.Q_nil _ _ _ _ _ | exact Kd.R_nil _ _ _ _ _, by first | exact Kd.S_nil _ _ _ _ _ | exact Kd.N_nil _ _ _ _ _ | exact Kd.V_nil _ _ _ _ _ | exact Kd.Q_nil _ _ _ _ _ | exact Kd.R_nil _ _ _ _ _, by repeat (first | (with_reducible first | exact HB.out | apply below_alloc | apply pw_below_drewN | apply below_drew1 | refine below_set ?_ GE258.out | refine below_set ?_ GE263.out) | exact HB.out)⟩
            · rw [if_neg c14] at H
              have c14b0 : (t260.toList == (a0.extract ((ji7) : Int).toNat a0.size).toList) = false := beq_eq_false_iff_ne.mpr c14
              have c14b1 : (t260.toList != (a0.extract ((ji7) : Int).toNat a0.size).toList) = true := bne_iff_ne.mpr c14
              simp only [Option.some.injEq, Prod.mk.injEq] at H
              obtain ⟨rfl, rfl, rfl, rfl⟩ := H
              try go_wp2
              have n0_ := Aside0.mk (blk_drew BK258.out)
              have n1_ := Aside0.mk (below_drew1 HB.out)
              clear BK258
              clear HB
              have BK258 := n0_
              have HB := n1_
              clear n0_ n1_
              refine start_ (n := 9) (S := fun w' => True) (ds := []) #[false, false, false, false, false, false, false, false, false] (by kernel_rfl) rfl rfl trivial (fun hHeld => ?_); refine with_tabW switchboardref16_Import.tab4 switchboardref16_Import.bits4 (fun HT_ HW_ => ?_)
              generalize wc.drew = w68 at BK258 HB hHeld ⊢
              refine pure_ (i := 0) (N := some 29) (v := ?_) (a' := ?_) #[true, false, false, false, false, false, false, false, false] rfl rfl (any_of HT_.out (by kernel_rfl)) (fun _ _ _ h => h) (Or.inl ⟨by rfl, ?_⟩) ?_ ?_
              rotate_left
              · intro w'
                go_simp
                with_reducible rfl
              rotate_left
              · simp only [Act.put, List.setIfInBounds_toArray, List.set_cons_zero, List.set_cons_succ, i64_w, i32_w]
                rfl
              refine pure_ (i := 1) (N := some 30) (v := ?_) (a' := ?_) #[true, true, false, false, false, false, false, false, false] rfl rfl (any_of HT_.out (by kernel_rfl)) (fun _ _ _ h => h) (Or.inl ⟨by rfl, ?_⟩) ?_ ?_
              rotate_left
              · intro w'
                go_simp
                with_reducible rfl
              rotate_left
              · simp only [Act.put, List.setIfInBounds_toArray, List.set_cons_zero, List.set_cons_succ, i64_w, i32_w]
                rfl
              refine pure_ (i := 2) (N := some 31) (v := ?_) (a' := ?_) #[true, true, true, false, false, false, false, false, false] rfl rfl (any_of HT_.out (by kernel_rfl)) (fun _ _ _ h => h) (Or.inl ⟨by rfl, ?_⟩) ?_ ?_
              rotate_left
              · intro w'
                go_simp
                with_reducible rfl
              rotate_left
              · simp only [Act.put, List.setIfInBounds_toArray, List.set_cons_zero, List.set_cons_succ, i64_w, i32_w]
                rfl
              refine pure_ (i := 5) (N := some 34) (v := ?_) (a' := ?_) #[true, true, true, false, false, true, false, false, false] rfl rfl (any_of HT_.out (by kernel_rfl)) (fun _ _ _ h => h) (Or.inl ⟨by rfl, ?_⟩) ?_ ?_
              rotate_left
              · intro w'
                go_simp
                with_reducible rfl
              rotate_left
              · simp only [Act.put, List.setIfInBounds_toArray, List.set_cons_zero, List.set_cons_succ, i64_w, i32_w]
                rfl
              refine pure_ (i := 6) (N := some 35) (v := ?_) (a' := ?_) #[true, true, true, false, false, true, true, false, false] rfl rfl (any_of HT_.out (by kernel_rfl)) (fun _ _ _ h => h) (Or.inl ⟨by rfl, ?_⟩) ?_ ?_
              rotate_left
              · intro w'
                go_simp
                with_reducible rfl
              rotate_left
              · simp only [Act.put, List.setIfInBounds_toArray, List.set_cons_zero, List.set_cons_succ, i64_w, i32_w]
                rfl
              refine pure_ (i := 7) (N := some 36) (v := ?_) (a' := ?_) #[true, true, true, false, false, true, true, true, false] rfl rfl (any_of HT_.out (by kernel_rfl)) (fun _ _ _ h => h) (Or.inl ⟨by rfl, ?_⟩) ?_ ?_
              rotate_left
              · intro w'
                go_simp
                with_reducible rfl
              rotate_left
              · simp only [Act.put, List.setIfInBounds_toArray, List.set_cons_zero, List.set_cons_succ, i64_w, i32_w]
                rfl
              refine one_ (i := 3) (N := some 32) #[true, true, true, true, false, true, true, true, false] rfl rfl (one_of HT_.out (by kernel_rfl)) (by decide) (fun K hK => ?_)
              refine goes_ Try.func29 (by kernel_rfl) rfl #[.string (a0.extract 0 ((ji7) : Int).toNat)] (by rfl) rfl rfl (by (try simp only [List.map_toArray, List.map_cons, List.map_nil]); first | done | (simp only [hji7]; rfl) | rfl | (simp only [ByteArray.size_append, Int.natCast_add, List.length_drop, List.length_take]; first | done | rfl) | (simp only [List.length_drop, List.length_take]; rfl)) ?_
              with_reducible refine (switchboardref06_Sum.calls kj1 (a0.extract 0 ((ji7) : Int).toNat) t259 _ A10.out).mono ?_
              rintro e w' ⟨rfl, ⟨nd, rfl⟩⟩
              refine ⟨_, rfl, ?_⟩
              refine hK.out _ _ trivial (fun hHeld => ?_)
              clear hK K
              refine norm_ (a' := ?_) ?_ ?_
              rotate_left
              · show Act.put _ (some 32) _ = _
                simp only [Act.put, List.setIfInBounds_toArray, List.set_cons_zero, List.set_cons_succ, i64_w, i32_w]
                rfl
              refine one_ (i := 4) (N := some 33) #[true, true, true, true, true, true, true, true, false] rfl rfl (one_of HT_.out (by kernel_rfl)) (by decide) (fun K hK => ?_)
              refine goes_ Try.func27 (by kernel_rfl) rfl #[.int .i64 t259] (by rfl) rfl rfl (by (try simp only [List.map_toArray, List.map_cons, List.map_nil]); first | done | rfl | (simp only [ByteArray.size_append, Int.natCast_add, List.length_drop, List.length_take]; first | done | rfl) | (simp only [List.length_drop, List.length_take]; rfl)) ?_
              with_reducible refine (switchboardref16_four.calls t259 t260 _ A11.out).mono ?_
              rintro e w69 ⟨rfl, hb⟩
              refine ⟨_, rfl, ?_⟩
              have n0_ := Aside0.mk (blk_below (g := gb258) (o := .cells #[.slice none 0 0, .slice none 0 0] 24 (0, 0)) (by (with_reducible repeat (first | refine blk_drewN ?_ _ | refine blk_drew ?_ | refine blk_alloc ?_ _)); exact BK258.out) hb)
              have n1_ := Aside0.mk (below_step (by repeat (first | (with_reducible first | exact HB.out | apply below_alloc | apply pw_below_drewN | apply below_drew1 | refine below_set ?_ GE258.out) | exact HB.out)) hb)
              clear BK258
              clear HB
              have BK258 := n0_
              have HB := n1_
              clear n0_ n1_
              (try clear hb)
              (try clear hb2)
              (try clear hk)
              (try clear hi)
              refine hK.out _ _ trivial (fun hHeld => ?_)
              clear hK K
              refine norm_ (a' := ?_) ?_ ?_
              rotate_left
              · show Act.put _ (some 33) _ = _
                simp only [Act.put, List.setIfInBounds_toArray, List.set_cons_zero, List.set_cons_succ, i64_w, i32_w]
                rfl
              refine pure_ (i := 8) (N := some 37) (v := ?_) (a' := ?_) #[true, true, true, true, true, true, true, true, true] rfl rfl (any_of HT_.out (by kernel_rfl)) (fun _ _ _ h => h) (Or.inl ⟨by rfl, ?_⟩) ?_ ?_
              rotate_left
              · intro w'
                go_simp
                with_reducible rfl
              rotate_left
              · simp only [Act.put, List.setIfInBounds_toArray, List.set_cons_zero, List.set_cons_succ, i64_w, i32_w]
                rfl
              refine done_ (done_of HT_.out (by kernel_rfl)) ?_
              have hcz70_0 : w69.cell? ⟨gb258, 0, none⟩ = some (.slice none 0 0) := (blk_cell BK258.out 0).trans rfl
              have hcz70_1 : w69.cell? ⟨gb258, 1, none⟩ = some (.slice none 0 0) := (blk_cell BK258.out 1).trans rfl
              have hfz70_0 := blk_frozen BK258.out 0
              have hfz70_1 := blk_frozen BK258.out 1
              try go_wp2
              refine bodyPost_ret (results_ctt rfl _ _ gb258 24 #[.slice none 0 0, .slice none 0 0] (0, 0) _ rfl (by (with_reducible repeat (first | refine blk_drewN ?_ _ | refine blk_drew ?_ | refine blk_alloc ?_ _)); refine blk_put (cs := #[.slice none 0 0, .slice none 0 0]) ?_ 1 _ rfl; (with_reducible repeat (first | refine blk_drewN ?_ _ | refine blk_drew ?_ | refine blk_alloc ?_ _)); refine blk_put (cs := #[.slice none 0 0, .slice none 0 0]) ?_ 0 _ rfl; (with_reducible repeat (first | refine blk_drewN ?_ _ | refine blk_drew ?_ | refine blk_alloc ?_ _)); exact BK258.out) Try.underlying24 rfl (by kernel_rfl)) rfl ?_
              exact ⟨_, _, by first | rfl | (simp [errW_none, errW_some] <;> rfl) | (simp only [← hji7]; first | rfl | (simp [errW_none, errW_some] <;> rfl)) | (simp [*, errW_none, errW_some] <;> rfl), by first | exact Kd.S_nil _ _ _ _ _ | exact Kd.N_nil _ _ _ _ _ | exact Kd.V_nil _ _ _ _ _ | exact Kd.Q_nil _ _ _ _ _ | exact Kd.R_nil _ _ _ _ _, by first | exact Kd.S_nil _ _ _ _ _ | exact Kd.N_nil _ _ _ _ _ | exact Kd.V_nil _ _ _ _ _ | exact Kd.Q_nil _ _ _ _ _ | exact Kd.R_nil _ _ _ _ _, by repeat (first | (with_reducible first | exact HB.out | apply below_alloc | apply pw_below_drewN | apply below_drew1 | refine below_set ?_ GE258.out) | exact HB.out)⟩
          · rw [if_neg c9] at H
            exact absurd H (by simp)
        · rw [if_neg c8] at H
          exact absurd H (by simp)

end
end Go.Proofs.Ytdcojbamfchgiaa.QChunk
