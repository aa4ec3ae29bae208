-- Printed by a program of this session's own (wip/gen), which turns the kit's printer; not one of the kit's printed texts.
import Derived.Test.YtgfpkhihdahjlabQWirex0
import Derived.Test.YtgfpkhihdahjlabQWirex4
import Derived.Test.YtgfpkhihdahjlabQWirex8
import Derived.Test.YtgfpkhihdahjlabQWirex15
namespace Go.Proofs.Ytgfpkhihdahjlab.QWire
open Go.RowKit Go.Proofs.Ytgfpkhihdahjlab.Given Go.Proofs.YtgfpkhihdahjlabW.PrintWords Go.Proofs.YtgfpkhihdahjlabW.PrintLast Go.Proofs.YtgfpkhihdahjlabW.PrintMore
attribute [local go_sem] max2_int min2_int max_two min_two max_three min_three max_four min_four   -- for this text's walks alone
set_option linter.unusedVariables false
set_option linter.unusedSimpArgs false
noncomputable section

/-! ### switchboardlaw07_WireUnlike: function 11 -/
def switchboardlaw07_WireUnlike.j0 : Nat → ByteArray → Int → ByteArray → Int → Bool → Int → Int → Int → Int → Int → Int → Int → Int → Int → Int → List Int → Int → Int → Int → Int → Int → Int → Int → Int → Int → Int → List Int → Option (Bool)
 | 0, _, _, _, _, _, _, _, _, _, _, _, _, _, _, _, _, _, _, _, _, _, _, _, _, _, _, _ => none
 | k + 1, x5, x6, x7, x8, x24, x364000, x364001, x364002, x364003, x364004, x364005, x364006, x364007, x364008, x364009, x364010, x365000, x365001, x365002, x365003, x365004, x365005, x365006, x365007, x365008, x365009, x365010 => if x24 = true then (if x6 = 0 then (if x8 = 0 then ((switchboardlaw07_awake.f k).bind fun t369 => (some t369)) else (if x7.toList = ([] : List UInt8) then ((switchboardlaw07_awake.f k).bind fun t370 => (some t370)) else (some false))) else (if x5.toList = ([] : List UInt8) then (if x8 = 0 then ((switchboardlaw07_awake.f k).bind fun t371 => (some t371)) else (if x7.toList = ([] : List UInt8) then ((switchboardlaw07_awake.f k).bind fun t372 => (some t372)) else (some false))) else (some false))) else ((switchboardref07_Same.f k x364000 x364001 x364002 x364003 x364004 x364005 x364006 x364007 x364008 x364009 x364010 x365000 x365001 x365002 x365003 x365004 x365005 x365006 x365007 x365008 x365009 x365010).bind fun t373 => (if ((x5.toList == x7.toList) == t373) = true then ((switchboardlaw07_awake.f k).bind fun t374 => (some t374)) else (some false)))
def switchboardlaw07_WireUnlike.f (k : Nat) (a0_0 : Int) (a0_1 : Int) (a0_2 : Int) (a0_3 : Int) (a0_4 : Int) (a0_5 : Int) (a0_6 : Int) (a0_7 : Int) (a0_8 : Int) (a0_9 : Int) (l0_10 : List Int) (a1_0 : Int) (a1_1 : Int) (a1_2 : Int) (a1_3 : Int) (a1_4 : Int) (a1_5 : Int) (a1_6 : Int) (a1_7 : Int) (a1_8 : Int) (a1_9 : Int) (l1_10 : List Int) : Option (Bool) := (wire_Put.f k a0_0 a0_1 a0_2 a0_3 a0_4 a0_5 a0_6 a0_7 a0_8 a0_9 l0_10).bind fun bt365 => ((wire_Put.f k a1_0 a1_1 a1_2 a1_3 a1_4 a1_5 a1_6 a1_7 a1_8 a1_9 l1_10).bind fun bt367 => (if bt365.2 = 0 then (switchboardlaw07_WireUnlike.j0 k bt365.1 bt365.2 bt367.1 bt367.2 (bt367.2 != 0) a0_0 a0_1 a0_2 a0_3 a0_4 a0_5 a0_6 a0_7 a0_8 a0_9 l0_10 a1_0 a1_1 a1_2 a1_3 a1_4 a1_5 a1_6 a1_7 a1_8 a1_9 l1_10) else (switchboardlaw07_WireUnlike.j0 k bt365.1 bt365.2 bt367.1 bt367.2 true a0_0 a0_1 a0_2 a0_3 a0_4 a0_5 a0_6 a0_7 a0_8 a0_9 l0_10 a1_0 a1_1 a1_2 a1_3 a1_4 a1_5 a1_6 a1_7 a1_8 a1_9 l1_10)))
theorem switchboardlaw07_WireUnlike.mono_l : ∀ k, (∀ y0 y1 y2 y3 y4 y5 y6 y7 y8 y9 y10 y11 y12 y13 y14 y15 y16 y17 y18 y19 y20 y21 y22 y23 y24 y25 y26, LeO (switchboardlaw07_WireUnlike.j0 k y0 y1 y2 y3 y4 y5 y6 y7 y8 y9 y10 y11 y12 y13 y14 y15 y16 y17 y18 y19 y20 y21 y22 y23 y24 y25 y26) (switchboardlaw07_WireUnlike.j0 (k + 1) y0 y1 y2 y3 y4 y5 y6 y7 y8 y9 y10 y11 y12 y13 y14 y15 y16 y17 y18 y19 y20 y21 y22 y23 y24 y25 y26))
 | 0 => fun _ _ _ _ _ _ _ _ _ _ _ _ _ _ _ _ _ _ _ _ _ _ _ _ _ _ _ r h => by simp [switchboardlaw07_WireUnlike.j0] at h
 | k + 1 => by
  have ih0 := switchboardlaw07_WireUnlike.mono_l k
  ·intro y0 y1 y2 y3 y4 y5 y6 y7 y8 y9 y10 y11 y12 y13 y14 y15 y16 y17 y18 y19 y20 y21 y22 y23 y24 y25 y26
   unfold switchboardlaw07_WireUnlike.j0
   repeat' first
   | (with_reducible exact ih0 _ _ _ _ _ _ _ _ _ _ _ _ _ _ _ _ _ _ _ _ _ _ _ _ _ _ _)
   | (with_reducible exact switchboardlaw07_awake.mono _)
   | (with_reducible exact switchboardref07_Same.mono _ _ _ _ _ _ _ _ _ _ _ _ _ _ _ _ _ _ _ _ _ _ _)
   | (with_reducible exact wire_Put.mono _ _ _ _ _ _ _ _ _ _ _ _)
   | (with_reducible exact LeO.refl _)
   | (with_reducible exact LeO.none _)
   | (with_reducible refine LeO.ite ?_ ?_)
   | (with_reducible refine LeO.bind ?_ (fun _ => ?_))
   | exact ih0 _ _ _ _ _ _ _ _ _ _ _ _ _ _ _ _ _ _ _ _ _ _ _ _ _ _ _
   | exact switchboardlaw07_awake.mono _
   | exact switchboardref07_Same.mono _ _ _ _ _ _ _ _ _ _ _ _ _ _ _ _ _ _ _ _ _ _ _
   | exact wire_Put.mono _ _ _ _ _ _ _ _ _ _ _ _
   | exact LeO.none _
   | refine LeO.ite ?_ ?_
   | refine LeO.bind ?_ (fun _ => ?_)
theorem switchboardlaw07_WireUnlike.mono : ∀ a0 a1 a2 a3 a4 a5 a6 a7 a8 a9 a10 a11 a12 a13 a14 a15 a16 a17 a18 a19 a20 a21 k, LeO (switchboardlaw07_WireUnlike.f k a0 a1 a2 a3 a4 a5 a6 a7 a8 a9 a10 a11 a12 a13 a14 a15 a16 a17 a18 a19 a20 a21) (switchboardlaw07_WireUnlike.f (k + 1) a0 a1 a2 a3 a4 a5 a6 a7 a8 a9 a10 a11 a12 a13 a14 a15 a16 a17 a18 a19 a20 a21) := by
 intro a0 a1 a2 a3 a4 a5 a6 a7 a8 a9 a10 a11 a12 a13 a14 a15 a16 a17 a18 a19 a20 a21 k
 have ih0 := switchboardlaw07_WireUnlike.mono_l k
 unfold switchboardlaw07_WireUnlike.f
 repeat' first
   | (with_reducible exact ih0 _ _ _ _ _ _ _ _ _ _ _ _ _ _ _ _ _ _ _ _ _ _ _ _ _ _ _)
   | (with_reducible exact switchboardlaw07_awake.mono _)
   | (with_reducible exact switchboardref07_Same.mono _ _ _ _ _ _ _ _ _ _ _ _ _ _ _ _ _ _ _ _ _ _ _)
   | (with_reducible exact wire_Put.mono _ _ _ _ _ _ _ _ _ _ _ _)
   | (with_reducible exact LeO.refl _)
   | (with_reducible exact LeO.none _)
   | (with_reducible refine LeO.ite ?_ ?_)
   | (with_reducible refine LeO.bind ?_ (fun _ => ?_))
   | exact ih0 _ _ _ _ _ _ _ _ _ _ _ _ _ _ _ _ _ _ _ _ _ _ _ _ _ _ _
   | exact switchboardlaw07_awake.mono _
   | exact switchboardref07_Same.mono _ _ _ _ _ _ _ _ _ _ _ _ _ _ _ _ _ _ _ _ _ _ _
   | exact wire_Put.mono _ _ _ _ _ _ _ _ _ _ _ _
   | exact LeO.none _
   | refine LeO.ite ?_ ?_
   | refine LeO.bind ?_ (fun _ => ?_)
set_option maxHeartbeats 8000000 in
set_option maxRecDepth 100000 in
theorem switchboardlaw07_WireUnlike.calls (k : Nat) (a0_0 : Int) (a0_1 : Int) (a0_2 : Int) (a0_3 : Int) (a0_4 : Int) (a0_5 : Int) (a0_6 : Int) (a0_7 : Int) (a0_8 : Int) (a0_9 : Int) (A0_10 : Option Addr) (c0_10 : Nat) (l0_10 : List Int) (a1_0 : Int) (a1_1 : Int) (a1_2 : Int) (a1_3 : Int) (a1_4 : Int) (a1_5 : Int) (a1_6 : Int) (a1_7 : Int) (a1_8 : Int) (a1_9 : Int) (A1_10 : Option Addr) (c1_10 : Nat) (l1_10 : List Int) (r : Bool) (w : World) (hr0_10 : Kd.C (Kd.int .i64) w A0_10 l0_10.length l0_10) (hc0_10 : l0_10.length ≤ c0_10) (hr1_10 : Kd.C (Kd.int .i64) w A1_10 l1_10.length l1_10) (hc1_10 : l1_10.length ≤ c1_10) (h : switchboardlaw07_WireUnlike.f k a0_0 a0_1 a0_2 a0_3 a0_4 a0_5 a0_6 a0_7 a0_8 a0_9 l0_10 a1_0 a1_1 a1_2 a1_3 a1_4 a1_5 a1_6 a1_7 a1_8 a1_9 l1_10 = some r) :
  Calls Try.prog 11 #[.agg #[.int .i64 a0_0, .int .i64 a0_1, .int .i64 a0_2, .int .i64 a0_3, .int .i64 a0_4, .int .i64 a0_5, .int .i64 a0_6, .int .i64 a0_7, .int .i64 a0_8, .int .i64 a0_9, .slice A0_10 l0_10.length c0_10], .agg #[.int .i64 a1_0, .int .i64 a1_1, .int .i64 a1_2, .int .i64 a1_3, .int .i64 a1_4, .int .i64 a1_5, .int .i64 a1_6, .int .i64 a1_7, .int .i64 a1_8, .int .i64 a1_9, .slice A1_10 l1_10.length c1_10]] w fun e w' => e = .returned (.bool r) ∧ Below w.heap.size w w' := by
 have hu32 := Try.underlying32
 have HR0_10 := Aside0.mk hr0_10
 have HC0_10 := Aside0.mk hc0_10
 clear hr0_10 hc0_10
 have HR1_10 := Aside0.mk hr1_10
 have HC1_10 := Aside0.mk hc1_10
 clear hr1_10 hc1_10
 have HB := Aside0.mk (Below.refl w.heap.size w)
 have H : ((wire_Put.f k a0_0 a0_1 a0_2 a0_3 a0_4 a0_5 a0_6 a0_7 a0_8 a0_9 l0_10).bind fun bt365 => ((wire_Put.f k a1_0 a1_1 a1_2 a1_3 a1_4 a1_5 a1_6 a1_7 a1_8 a1_9 l1_10).bind fun bt367 => (if bt365.2 = 0 then (switchboardlaw07_WireUnlike.j0 k bt365.1 bt365.2 bt367.1 bt367.2 (bt367.2 != 0) a0_0 a0_1 a0_2 a0_3 a0_4 a0_5 a0_6 a0_7 a0_8 a0_9 l0_10 a1_0 a1_1 a1_2 a1_3 a1_4 a1_5 a1_6 a1_7 a1_8 a1_9 l1_10) else (switchboardlaw07_WireUnlike.j0 k bt365.1 bt365.2 bt367.1 bt367.2 true a0_0 a0_1 a0_2 a0_3 a0_4 a0_5 a0_6 a0_7 a0_8 a0_9 l0_10 a1_0 a1_1 a1_2 a1_3 a1_4 a1_5 a1_6 a1_7 a1_8 a1_9 l1_10)))) = some r := h
 clear h
 replace H := Option.bind_eq_some_iff.mp H
 obtain ⟨⟨t365, t366⟩, A30, H⟩ := H
 replace H : ((wire_Put.f k a1_0 a1_1 a1_2 a1_3 a1_4 a1_5 a1_6 a1_7 a1_8 a1_9 l1_10).bind fun bt367 => (if t366 = 0 then (switchboardlaw07_WireUnlike.j0 k t365 t366 bt367.1 bt367.2 (bt367.2 != 0) a0_0 a0_1 a0_2 a0_3 a0_4 a0_5 a0_6 a0_7 a0_8 a0_9 l0_10 a1_0 a1_1 a1_2 a1_3 a1_4 a1_5 a1_6 a1_7 a1_8 a1_9 l1_10) else (switchboardlaw07_WireUnlike.j0 k t365 t366 bt367.1 bt367.2 true a0_0 a0_1 a0_2 a0_3 a0_4 a0_5 a0_6 a0_7 a0_8 a0_9 l0_10 a1_0 a1_1 a1_2 a1_3 a1_4 a1_5 a1_6 a1_7 a1_8 a1_9 l1_10))) = some r := H
 have A3 := Aside0.mk A30
 clear A30
 replace H := Option.bind_eq_some_iff.mp H
 obtain ⟨⟨t367, t368⟩, A40, H⟩ := H
 replace H : (if t366 = 0 then (switchboardlaw07_WireUnlike.j0 k t365 t366 t367 t368 (t368 != 0) a0_0 a0_1 a0_2 a0_3 a0_4 a0_5 a0_6 a0_7 a0_8 a0_9 l0_10 a1_0 a1_1 a1_2 a1_3 a1_4 a1_5 a1_6 a1_7 a1_8 a1_9 l1_10) else (switchboardlaw07_WireUnlike.j0 k t365 t366 t367 t368 true a0_0 a0_1 a0_2 a0_3 a0_4 a0_5 a0_6 a0_7 a0_8 a0_9 l0_10 a1_0 a1_1 a1_2 a1_3 a1_4 a1_5 a1_6 a1_7 a1_8 a1_9 l1_10)) = some r := H
 have A4 := Aside0.mk A40
 clear A40
 have HC5 := Aside0.mk H
 clear H
 go_enter Try.func11, Try.ntmps11
 go_upto_region 3 with (first | ((with_reducible refine gate_dst (N := 2) rfl ?_); refine box_event ?hg (N := 2) ?hd (cs := #[.int .i64 a0_0, .int .i64 a0_1, .int .i64 a0_2, .int .i64 a0_3, .int .i64 a0_4, .int .i64 a0_5, .int .i64 a0_6, .int .i64 a0_7, .int .i64 a0_8, .int .i64 a0_9, .slice A0_10 l0_10.length c0_10]) (t := 32) ?hr ?_; (case hd => rfl); (case hg => rfl); (case hr => first | (go_simp; done) | (go_simp; rfl)); intro gb363 hg w6 hbox hb; have n0_ := Aside0.mk (below_step (by repeat (first | (with_reducible first | exact HB.out | apply below_alloc | apply pw_below_drewN | apply below_drew1) | exact HB.out)) hb); have n1_ := Aside0.mk (hbox); have n2_ := Aside0.mk ((by rw [hg]; exact (below_size (by repeat (first | (with_reducible first | exact HB.out | apply below_alloc | apply pw_below_drewN | apply below_drew1) | exact HB.out))) : w.heap.size ≤ gb363)); have n3_ := Aside0.mk ((by rw [hg]; exact (below_size (by repeat (first | (with_reducible first | exact HB.out | apply below_alloc | apply pw_below_drewN | apply below_drew1) | exact HB.out))) : w.heap.size ≤ gb363)); clear HB; have HB := n0_; have BK363 := n1_; have GW363 := n2_; have GE363 := n3_; clear n0_ n1_ n2_ n3_; clear hb hbox hg) | ((with_reducible refine gate_dst (N := 3) rfl ?_); refine box_event ?hg (N := 3) ?hd (cs := #[.int .i64 a1_0, .int .i64 a1_1, .int .i64 a1_2, .int .i64 a1_3, .int .i64 a1_4, .int .i64 a1_5, .int .i64 a1_6, .int .i64 a1_7, .int .i64 a1_8, .int .i64 a1_9, .slice A1_10 l1_10.length c1_10]) (t := 32) ?hr ?_; (case hd => rfl); (case hg => rfl); (case hr => first | (go_simp; done) | (go_simp; rfl)); intro gb364 hg w7 hbox hb; have n0_ := Aside0.mk (blk_below (g := gb363) (o := .cells #[.int .i64 a0_0, .int .i64 a0_1, .int .i64 a0_2, .int .i64 a0_3, .int .i64 a0_4, .int .i64 a0_5, .int .i64 a0_6, .int .i64 a0_7, .int .i64 a0_8, .int .i64 a0_9, .slice A0_10 l0_10.length c0_10] 32 (0, 0)) (by (with_reducible repeat (first | refine blk_drewN ?_ _ | refine blk_drew ?_ | refine blk_alloc ?_ _)); exact BK363.out) hb); have n1_ := Aside0.mk (below_step (by repeat (first | (with_reducible first | exact HB.out | apply below_alloc | apply pw_below_drewN | apply below_drew1 | refine below_set ?_ GE363.out) | exact HB.out)) hb); have n2_ := Aside0.mk (hbox); have n3_ := Aside0.mk ((by rw [hg]; exact (below_size (by repeat (first | (with_reducible first | exact HB.out | apply below_alloc | apply pw_below_drewN | apply below_drew1 | refine below_set ?_ GE363.out) | exact HB.out))) : w.heap.size ≤ gb364)); have n4_ := Aside0.mk ((by rw [hg]; exact (below_size (by repeat (first | (with_reducible first | exact HB.out | apply below_alloc | apply pw_below_drewN | apply below_drew1 | refine below_set ?_ GE363.out) | exact HB.out))) : w.heap.size ≤ gb364)); have n5_ := Aside0.mk ((by rw [hg]; exact Nat.ne_of_lt (blk_lt (g := gb363) (o := .cells #[.int .i64 a0_0, .int .i64 a0_1, .int .i64 a0_2, .int .i64 a0_3, .int .i64 a0_4, .int .i64 a0_5, .int .i64 a0_6, .int .i64 a0_7, .int .i64 a0_8, .int .i64 a0_9, .slice A0_10 l0_10.length c0_10] 32 (0, 0)) (by (with_reducible repeat (first | refine blk_drewN ?_ _ | refine blk_drew ?_ | refine blk_alloc ?_ _)); exact BK363.out)) : gb363 ≠ gb364)); have n6_ := Aside0.mk ((by rw [hg]; exact Nat.ne_of_gt (blk_lt (g := gb363) (o := .cells #[.int .i64 a0_0, .int .i64 a0_1, .int .i64 a0_2, .int .i64 a0_3, .int .i64 a0_4, .int .i64 a0_5, .int .i64 a0_6, .int .i64 a0_7, .int .i64 a0_8, .int .i64 a0_9, .slice A0_10 l0_10.length c0_10] 32 (0, 0)) (by (with_reducible repeat (first | refine blk_drewN ?_ _ | refine blk_drew ?_ | refine blk_alloc ?_ _)); exact BK363.out)) : gb364 ≠ gb363)); clear BK363; clear HB; have BK363 := n0_; have HB := n1_; have BK364 := n2_; have GW364 := n3_; have GE364 := n4_; have NB363_364 := n5_; have NB364_363 := n6_; clear n0_ n1_ n2_ n3_ n4_ n5_ n6_; clear hb hbox hg; have hnb8 := NB363_364.out; have hnc8 := NB364_363.out; have hcz9_0 : w7.cell? ⟨gb363, 0, none⟩ = some (.int .i64 a0_0) := (blk_cell BK363.out 0).trans rfl; have hcz9_1 : w7.cell? ⟨gb363, 1, none⟩ = some (.int .i64 a0_1) := (blk_cell BK363.out 1).trans rfl; have hcz9_2 : w7.cell? ⟨gb363, 2, none⟩ = some (.int .i64 a0_2) := (blk_cell BK363.out 2).trans rfl; have hcz9_3 : w7.cell? ⟨gb363, 3, none⟩ = some (.int .i64 a0_3) := (blk_cell BK363.out 3).trans rfl; have hcz9_4 : w7.cell? ⟨gb363, 4, none⟩ = some (.int .i64 a0_4) := (blk_cell BK363.out 4).trans rfl; have hcz9_5 : w7.cell? ⟨gb363, 5, none⟩ = some (.int .i64 a0_5) := (blk_cell BK363.out 5).trans rfl; have hcz9_6 : w7.cell? ⟨gb363, 6, none⟩ = some (.int .i64 a0_6) := (blk_cell BK363.out 6).trans rfl; have hcz9_7 : w7.cell? ⟨gb363, 7, none⟩ = some (.int .i64 a0_7) := (blk_cell BK363.out 7).trans rfl; have hcz9_8 : w7.cell? ⟨gb363, 8, none⟩ = some (.int .i64 a0_8) := (blk_cell BK363.out 8).trans rfl; have hcz9_9 : w7.cell? ⟨gb363, 9, none⟩ = some (.int .i64 a0_9) := (blk_cell BK363.out 9).trans rfl; have hcz9_10 : w7.cell? ⟨gb363, 10, none⟩ = some (.slice A0_10 l0_10.length c0_10) := (blk_cell BK363.out 10).trans rfl; have hfz9_0 := blk_frozen BK363.out 0; have hfz9_1 := blk_frozen BK363.out 1; have hfz9_2 := blk_frozen BK363.out 2; have hfz9_3 := blk_frozen BK363.out 3; have hfz9_4 := blk_frozen BK363.out 4; have hfz9_5 := blk_frozen BK363.out 5; have hfz9_6 := blk_frozen BK363.out 6; have hfz9_7 := blk_frozen BK363.out 7; have hfz9_8 := blk_frozen BK363.out 8; have hfz9_9 := blk_frozen BK363.out 9; have hfz9_10 := blk_frozen BK363.out 10) | ((with_reducible refine gate_callee (f := 19) rfl ?_); refine goesL_ (some 11) rfl rfl Try.func19 (by kernel_rfl) rfl #[.agg #[.int .i64 a0_0, .int .i64 a0_1, .int .i64 a0_2, .int .i64 a0_3, .int .i64 a0_4, .int .i64 a0_5, .int .i64 a0_6, .int .i64 a0_7, .int .i64 a0_8, .int .i64 a0_9, .slice A0_10 l0_10.length c0_10]] rfl (by (try simp only [List.map_toArray, List.map_cons, List.map_nil]); first | done | rfl | (simp only [ByteArray.size_append, Int.natCast_add, List.length_drop, List.length_take]; first | done | rfl) | (simp only [List.length_drop, List.length_take]; rfl)) ?_; (with_reducible refine (wire_Put.calls k a0_0 a0_1 a0_2 a0_3 a0_4 a0_5 a0_6 a0_7 a0_8 a0_9 _ _ l0_10 t365 t366 _ ?side1 ?side2 A3.out).mono ?_); (case side1 => repeat (first | exact (Kd.C_below HR0_10.out HB.out) | (with_reducible refine Kd.C_alloc ?_ _) | (with_reducible refine Kd.C_drewN ?_ _) | (with_reducible refine Kd.C_drew ?_))); (case side2 => exact HC0_10.out); rintro e w10 ⟨rfl, hb⟩; refine ⟨_, rfl, ?_⟩; have n0_ := Aside0.mk (blk_below (g := gb363) (o := .cells #[.int .i64 a0_0, .int .i64 a0_1, .int .i64 a0_2, .int .i64 a0_3, .int .i64 a0_4, .int .i64 a0_5, .int .i64 a0_6, .int .i64 a0_7, .int .i64 a0_8, .int .i64 a0_9, .slice A0_10 l0_10.length c0_10] 32 (0, 0)) (by (with_reducible repeat (first | refine blk_drewN ?_ _ | refine blk_drew ?_ | refine blk_alloc ?_ _)); exact BK363.out) hb); have n1_ := Aside0.mk (blk_below (g := gb364) (o := .cells #[.int .i64 a1_0, .int .i64 a1_1, .int .i64 a1_2, .int .i64 a1_3, .int .i64 a1_4, .int .i64 a1_5, .int .i64 a1_6, .int .i64 a1_7, .int .i64 a1_8, .int .i64 a1_9, .slice A1_10 l1_10.length c1_10] 32 (0, 0)) (by (with_reducible repeat (first | refine blk_drewN ?_ _ | refine blk_drew ?_ | refine blk_alloc ?_ _)); exact BK364.out) hb); have n2_ := Aside0.mk (below_step (by repeat (first | (with_reducible first | exact HB.out | apply below_alloc | apply pw_below_drewN | apply below_drew1 | refine below_set ?_ GE363.out | refine below_set ?_ GE364.out) | exact HB.out)) hb); clear BK363; clear BK364; clear HB; have BK363 := n0_; have BK364 := n1_; have HB := n2_; clear n0_ n1_ n2_; (try clear hb); (try clear hb2); (try clear hk); (try clear hi); have hcz11_0 : w10.cell? ⟨gb364, 0, none⟩ = some (.int .i64 a1_0) := (blk_cell BK364.out 0).trans rfl; have hcz11_1 : w10.cell? ⟨gb364, 1, none⟩ = some (.int .i64 a1_1) := (blk_cell BK364.out 1).trans rfl; have hcz11_2 : w10.cell? ⟨gb364, 2, none⟩ = some (.int .i64 a1_2) := (blk_cell BK364.out 2).trans rfl; have hcz11_3 : w10.cell? ⟨gb364, 3, none⟩ = some (.int .i64 a1_3) := (blk_cell BK364.out 3).trans rfl; have hcz11_4 : w10.cell? ⟨gb364, 4, none⟩ = some (.int .i64 a1_4) := (blk_cell BK364.out 4).trans rfl; have hcz11_5 : w10.cell? ⟨gb364, 5, none⟩ = some (.int .i64 a1_5) := (blk_cell BK364.out 5).trans rfl; have hcz11_6 : w10.cell? ⟨gb364, 6, none⟩ = some (.int .i64 a1_6) := (blk_cell BK364.out 6).trans rfl; have hcz11_7 : w10.cell? ⟨gb364, 7, none⟩ = some (.int .i64 a1_7) := (blk_cell BK364.out 7).trans rfl; have hcz11_8 : w10.cell? ⟨gb364, 8, none⟩ = some (.int .i64 a1_8) := (blk_cell BK364.out 8).trans rfl; have hcz11_9 : w10.cell? ⟨gb364, 9, none⟩ = some (.int .i64 a1_9) := (blk_cell BK364.out 9).trans rfl; have hcz11_10 : w10.cell? ⟨gb364, 10, none⟩ = some (.slice A1_10 l1_10.length c1_10) := (blk_cell BK364.out 10).trans rfl; have hfz11_0 := blk_frozen BK364.out 0; have hfz11_1 := blk_frozen BK364.out 1; have hfz11_2 := blk_frozen BK364.out 2; have hfz11_3 := blk_frozen BK364.out 3; have hfz11_4 := blk_frozen BK364.out 4; have hfz11_5 := blk_frozen BK364.out 5; have hfz11_6 := blk_frozen BK364.out 6; have hfz11_7 := blk_frozen BK364.out 7; have hfz11_8 := blk_frozen BK364.out 8; have hfz11_9 := blk_frozen BK364.out 9; have hfz11_10 := blk_frozen BK364.out 10) | ((with_reducible refine gate_callee (f := 19) rfl ?_); refine goesL_ (some 16) rfl rfl Try.func19 (by kernel_rfl) rfl #[.agg #[.int .i64 a1_0, .int .i64 a1_1, .int .i64 a1_2, .int .i64 a1_3, .int .i64 a1_4, .int .i64 a1_5, .int .i64 a1_6, .int .i64 a1_7, .int .i64 a1_8, .int .i64 a1_9, .slice A1_10 l1_10.length c1_10]] rfl (by (try simp only [List.map_toArray, List.map_cons, List.map_nil]); first | done | rfl | (simp only [ByteArray.size_append, Int.natCast_add, List.length_drop, List.length_take]; first | done | rfl) | (simp only [List.length_drop, List.length_take]; rfl)) ?_; (with_reducible refine (wire_Put.calls k a1_0 a1_1 a1_2 a1_3 a1_4 a1_5 a1_6 a1_7 a1_8 a1_9 _ _ l1_10 t367 t368 _ ?side1 ?side2 A4.out).mono ?_); (case side1 => repeat (first | exact (Kd.C_below HR1_10.out HB.out) | (with_reducible refine Kd.C_alloc ?_ _) | (with_reducible refine Kd.C_drewN ?_ _) | (with_reducible refine Kd.C_drew ?_))); (case side2 => exact HC1_10.out); rintro e w12 ⟨rfl, hb⟩; refine ⟨_, rfl, ?_⟩; have n0_ := Aside0.mk (blk_below (g := gb363) (o := .cells #[.int .i64 a0_0, .int .i64 a0_1, .int .i64 a0_2, .int .i64 a0_3, .int .i64 a0_4, .int .i64 a0_5, .int .i64 a0_6, .int .i64 a0_7, .int .i64 a0_8, .int .i64 a0_9, .slice A0_10 l0_10.length c0_10] 32 (0, 0)) (by (with_reducible repeat (first | refine blk_drewN ?_ _ | refine blk_drew ?_ | refine blk_alloc ?_ _)); exact BK363.out) hb); have n1_ := Aside0.mk (blk_below (g := gb364) (o := .cells #[.int .i64 a1_0, .int .i64 a1_1, .int .i64 a1_2, .int .i64 a1_3, .int .i64 a1_4, .int .i64 a1_5, .int .i64 a1_6, .int .i64 a1_7, .int .i64 a1_8, .int .i64 a1_9, .slice A1_10 l1_10.length c1_10] 32 (0, 0)) (by (with_reducible repeat (first | refine blk_drewN ?_ _ | refine blk_drew ?_ | refine blk_alloc ?_ _)); exact BK364.out) hb); have n2_ := Aside0.mk (below_step (by repeat (first | (with_reducible first | exact HB.out | apply below_alloc | apply pw_below_drewN | apply below_drew1 | refine below_set ?_ GE363.out | refine below_set ?_ GE364.out) | exact HB.out)) hb); clear BK363; clear BK364; clear HB; have BK363 := n0_; have BK364 := n1_; have HB := n2_; clear n0_ n1_ n2_; (try clear hb); (try clear hb2); (try clear hk); (try clear hi)))
 (try simp only [Act.put, List.setIfInBounds_toArray, List.set_cons_zero, List.set_cons_succ])
 go_cut [24] (fun v24 wc => ∃ (kq : Nat) (x24_4 : Bool), v24 = .bool x24_4 ∧ Aside0 (switchboardlaw07_WireUnlike.j0 kq t365 t366 t367 t368 x24_4 a0_0 a0_1 a0_2 a0_3 a0_4 a0_5 a0_6 a0_7 a0_8 a0_9 l0_10 a1_0 a1_1 a1_2 a1_3 a1_4 a1_5 a1_6 a1_7 a1_8 a1_9 l1_10 = some r) ∧ Aside0 (kq ≤ k) ∧ Aside0 (wc.heap[gb363]? = some (.cells #[.int .i64 a0_0, .int .i64 a0_1, .int .i64 a0_2, .int .i64 a0_3, .int .i64 a0_4, .int .i64 a0_5, .int .i64 a0_6, .int .i64 a0_7, .int .i64 a0_8, .int .i64 a0_9, (.slice A0_10 l0_10.length c0_10)] 32 (0, 0))) ∧ Aside0 (wc.heap[gb364]? = some (.cells #[.int .i64 a1_0, .int .i64 a1_1, .int .i64 a1_2, .int .i64 a1_3, .int .i64 a1_4, .int .i64 a1_5, .int .i64 a1_6, .int .i64 a1_7, .int .i64 a1_8, .int .i64 a1_9, (.slice A1_10 l1_10.length c1_10)] 32 (0, 0))) ∧ Aside0 (Below w.heap.size w wc))
 case first =>
  have H := HC5.out
  clear HC5
  by_cases c13 : t366 = 0
  ·rw [if_pos c13] at H
   have c13b0 : (t366 == 0) = true := beq_iff_eq.mpr c13
   have c13b1 : (t366 != 0) = false := bne_eq_false_iff_eq.mpr c13
   clear c13
   (first | rw [c13b0] | (simp only [i64_w, i32_w]; rw [c13b0]) | skip)
   have H' := Aside0.mk H
   clear H
   go_wp2
   go_meet
   case rel => exact ⟨_, ((t368 != 0)), (by first | rfl | (simp; done) | (simp [*]; done)), H', ⟨by first | omega | exact Nat.le_refl _⟩, ⟨by (with_reducible repeat (first | refine blk_drewN ?_ _ | refine blk_drew ?_ | refine blk_alloc ?_ _)); exact BK363.out⟩, ⟨by (with_reducible repeat (first | refine blk_drewN ?_ _ | refine blk_drew ?_ | refine blk_alloc ?_ _)); exact BK364.out⟩, ⟨by repeat (first | (with_reducible first | exact HB.out | apply below_alloc | apply pw_below_drewN | apply below_drew1 | refine below_set ?_ GE363.out | refine below_set ?_ GE364.out) | exact HB.out)⟩⟩
  ·rw [if_neg c13] at H
   have c13b0 : (t366 == 0) = false := beq_eq_false_iff_ne.mpr c13
   have c13b1 : (t366 != 0) = true := bne_iff_ne.mpr c13
   (first | rw [c13b0] | (simp only [i64_w, i32_w]; rw [c13b0]) | skip)
   have H' := Aside0.mk H
   clear H
   go_wp2
   go_meet
   case rel => exact ⟨_, (true), (by first | rfl | (simp; done) | (simp [*]; done)), H', ⟨by first | omega | exact Nat.le_refl _⟩, ⟨by (with_reducible repeat (first | refine blk_drewN ?_ _ | refine blk_drew ?_ | refine blk_alloc ?_ _)); exact BK363.out⟩, ⟨by (with_reducible repeat (first | refine blk_drewN ?_ _ | refine blk_drew ?_ | refine blk_alloc ?_ _)); exact BK364.out⟩, ⟨by repeat (first | (with_reducible first | exact HB.out | apply below_alloc | apply pw_below_drewN | apply below_drew1 | refine below_set ?_ GE363.out | refine below_set ?_ GE364.out) | exact HB.out)⟩⟩
 case rest =>
  clear HC5
  try clear c1
  try clear p2
  try clear c8
  try clear c11
  try clear c13
  try clear c13b0
  try clear c13b1
  try clear hcz11_0
  try clear hcz11_1
  try clear hcz11_10
  try clear hcz11_2
  try clear hcz11_3
  try clear hcz11_4
  try clear hcz11_5
  try clear hcz11_6
  try clear hcz11_7
  try clear hcz11_8
  try clear hcz11_9
  try clear hcz9_0
  try clear hcz9_1
  try clear hcz9_10
  try clear hcz9_2
  try clear hcz9_3
  try clear hcz9_4
  try clear hcz9_5
  try clear hcz9_6
  try clear hcz9_7
  try clear hcz9_8
  try clear hcz9_9
  try clear hfz11_0
  try clear hfz11_1
  try clear hfz11_10
  try clear hfz11_2
  try clear hfz11_3
  try clear hfz11_4
  try clear hfz11_5
  try clear hfz11_6
  try clear hfz11_7
  try clear hfz11_8
  try clear hfz11_9
  try clear hfz9_0
  try clear hfz9_1
  try clear hfz9_10
  try clear hfz9_2
  try clear hfz9_3
  try clear hfz9_4
  try clear hfz9_5
  try clear hfz9_6
  try clear hfz9_7
  try clear hfz9_8
  try clear hfz9_9
  obtain ⟨kq, x24_4, rfl, HA, HJ4, BK363, BK364, HB⟩ := hcut
  cases kq with
  | zero => exact absurd HA.out (by simp [switchboardlaw07_WireUnlike.j0])
  | succ kj4 =>
   have H := HA.out
   clear HA
   simp only [switchboardlaw07_WireUnlike.j0] at H
   by_cases c14 : x24_4 = true
   ·subst c14
    have H1 : (if t366 = 0 then (if t368 = 0 then ((switchboardlaw07_awake.f kj4).bind fun t369 => (some t369)) else (if t367.toList = ([] : List UInt8) then ((switchboardlaw07_awake.f kj4).bind fun t370 => (some t370)) else (some false))) else (if t365.toList = ([] : List UInt8) then (if t368 = 0 then ((switchboardlaw07_awake.f kj4).bind fun t371 => (some t371)) else (if t367.toList = ([] : List UInt8) then ((switchboardlaw07_awake.f kj4).bind fun t372 => (some t372)) else (some false))) else (some false))) = some r := by rw [if_pos rfl] at H; exact H
    clear H
    have H := H1
    clear H1
    by_cases c15 : t366 = 0
    ·rw [if_pos c15] at H
     have c15b0 : (t366 == 0) = true := beq_iff_eq.mpr c15
     have c15b1 : (t366 != 0) = false := bne_eq_false_iff_eq.mpr c15
     clear c15
     by_cases c16 : t368 = 0
     ·rw [if_pos c16] at H
      have c16b0 : (t368 == 0) = true := beq_iff_eq.mpr c16
      have c16b1 : (t368 != 0) = false := bne_eq_false_iff_eq.mpr c16
      clear c16
      replace H := Option.bind_eq_some_iff.mp H
      obtain ⟨t369, A170, H⟩ := H
      replace H : (some t369) = some r := H
      have A17 := Aside0.mk A170
      clear A170
      obtain rfl := Option.some.inj H
      go_wp2_with (first | (go_at_call 18; (with_reducible refine (switchboardlaw07_awake.calls kj4  t369 _ A17.out).mono ?_); rintro e w18 ⟨rfl, hb⟩; have n0_ := Aside0.mk (blk_below (g := gb363) (o := .cells #[.int .i64 a0_0, .int .i64 a0_1, .int .i64 a0_2, .int .i64 a0_3, .int .i64 a0_4, .int .i64 a0_5, .int .i64 a0_6, .int .i64 a0_7, .int .i64 a0_8, .int .i64 a0_9, .slice A0_10 l0_10.length c0_10] 32 (0, 0)) (by (with_reducible repeat (first | refine blk_drewN ?_ _ | refine blk_drew ?_ | refine blk_alloc ?_ _)); exact BK363.out) hb); have n1_ := Aside0.mk (blk_below (g := gb364) (o := .cells #[.int .i64 a1_0, .int .i64 a1_1, .int .i64 a1_2, .int .i64 a1_3, .int .i64 a1_4, .int .i64 a1_5, .int .i64 a1_6, .int .i64 a1_7, .int .i64 a1_8, .int .i64 a1_9, .slice A1_10 l1_10.length c1_10] 32 (0, 0)) (by (with_reducible repeat (first | refine blk_drewN ?_ _ | refine blk_drew ?_ | refine blk_alloc ?_ _)); exact BK364.out) hb); have n2_ := Aside0.mk (below_step (by repeat (first | (with_reducible first | exact HB.out | apply below_alloc | apply pw_below_drewN | apply below_drew1 | refine below_set ?_ GE363.out | refine below_set ?_ GE364.out) | exact HB.out)) hb); clear BK363; clear BK364; clear HB; have BK363 := n0_; have BK364 := n1_; have HB := n2_; clear n0_ n1_ n2_; (try clear hb); (try clear hb2); (try clear hk); (try clear hi)))
      go_ret
      exact ⟨by first | rfl | (simp [errW_none, errW_some] <;> rfl) | (simp [*, errW_none, errW_some] <;> rfl), by repeat (first | (with_reducible first | exact HB.out | apply below_alloc | apply pw_below_drewN | apply below_drew1 | refine below_set ?_ GE363.out | refine below_set ?_ GE364.out) | exact HB.out)⟩
     ·rw [if_neg c16] at H
      have c16b0 : (t368 == 0) = false := beq_eq_false_iff_ne.mpr c16
      have c16b1 : (t368 != 0) = true := bne_iff_ne.mpr c16
      by_cases c19 : t367.toList = ([] : List UInt8)
      ·rw [if_pos c19] at H
       have c19b0 : (t367.toList == ([] : List UInt8)) = true := beq_iff_eq.mpr c19
       have c19b1 : (t367.toList != ([] : List UInt8)) = false := bne_eq_false_iff_eq.mpr c19
       clear c19
       replace H := Option.bind_eq_some_iff.mp H
       obtain ⟨t370, A200, H⟩ := H
       replace H : (some t370) = some r := H
       have A20 := Aside0.mk A200
       clear A200
       obtain rfl := Option.some.inj H
       go_wp2_with (first | (go_at_call 18; (with_reducible refine (switchboardlaw07_awake.calls kj4  t370 _ A20.out).mono ?_); rintro e w21 ⟨rfl, hb⟩; have n0_ := Aside0.mk (blk_below (g := gb363) (o := .cells #[.int .i64 a0_0, .int .i64 a0_1, .int .i64 a0_2, .int .i64 a0_3, .int .i64 a0_4, .int .i64 a0_5, .int .i64 a0_6, .int .i64 a0_7, .int .i64 a0_8, .int .i64 a0_9, .slice A0_10 l0_10.length c0_10] 32 (0, 0)) (by (with_reducible repeat (first | refine blk_drewN ?_ _ | refine blk_drew ?_ | refine blk_alloc ?_ _)); exact BK363.out) hb); have n1_ := Aside0.mk (blk_below (g := gb364) (o := .cells #[.int .i64 a1_0, .int .i64 a1_1, .int .i64 a1_2, .int .i64 a1_3, .int .i64 a1_4, .int .i64 a1_5, .int .i64 a1_6, .int .i64 a1_7, .int .i64 a1_8, .int .i64 a1_9, .slice A1_10 l1_10.length c1_10] 32 (0, 0)) (by (with_reducible repeat (first | refine blk_drewN ?_ _ | refine blk_drew ?_ | refine blk_alloc ?_ _)); exact BK364.out) hb); have n2_ := Aside0.mk (below_step (by repeat (first | (with_reducible first | exact HB.out | apply below_alloc | apply pw_below_drewN | apply below_drew1 | refine below_set ?_ GE363.out | refine below_set ?_ GE364.out) | exact HB.out)) hb); clear BK363; clear BK364; clear HB; have BK363 := n0_; have BK364 := n1_; have HB := n2_; clear n0_ n1_ n2_; (try clear hb); (try clear hb2); (try clear hk); (try clear hi)))
       go_ret
       exact ⟨by first | rfl | (simp [errW_none, errW_some] <;> rfl) | (simp [*, errW_none, errW_some] <;> rfl), by repeat (first | (with_reducible first | exact HB.out | apply below_alloc | apply pw_below_drewN | apply below_drew1 | refine below_set ?_ GE363.out | refine below_set ?_ GE364.out) | exact HB.out)⟩
      ·rw [if_neg c19] at H
       have c19b0 : (t367.toList == ([] : List UInt8)) = false := beq_eq_false_iff_ne.mpr c19
       have c19b1 : (t367.toList != ([] : List UInt8)) = true := bne_iff_ne.mpr c19
       obtain rfl := Option.some.inj H
       go_wp2
       go_ret
       exact ⟨by first | rfl | (simp [errW_none, errW_some] <;> rfl) | (simp [*, errW_none, errW_some] <;> rfl), by repeat (first | (with_reducible first | exact HB.out | apply below_alloc | apply pw_below_drewN | apply below_drew1 | refine below_set ?_ GE363.out | refine below_set ?_ GE364.out) | exact HB.out)⟩
    ·rw [if_neg c15] at H
     have c15b0 : (t366 == 0) = false := beq_eq_false_iff_ne.mpr c15
     have c15b1 : (t366 != 0) = true := bne_iff_ne.mpr c15
     by_cases c22 : t365.toList = ([] : List UInt8)
     ·rw [if_pos c22] at H
      have c22b0 : (t365.toList == ([] : List UInt8)) = true := beq_iff_eq.mpr c22
      have c22b1 : (t365.toList != ([] : List UInt8)) = false := bne_eq_false_iff_eq.mpr c22
      clear c22
      by_cases c23 : t368 = 0
      ·rw [if_pos c23] at H
       have c23b0 : (t368 == 0) = true := beq_iff_eq.mpr c23
       have c23b1 : (t368 != 0) = false := bne_eq_false_iff_eq.mpr c23
       clear c23
       replace H := Option.bind_eq_some_iff.mp H
       obtain ⟨t371, A240, H⟩ := H
       replace H : (some t371) = some r := H
       have A24 := Aside0.mk A240
       clear A240
       obtain rfl := Option.some.inj H
       go_wp2_with (first | (go_at_call 18; (with_reducible refine (switchboardlaw07_awake.calls kj4  t371 _ A24.out).mono ?_); rintro e w25 ⟨rfl, hb⟩; have n0_ := Aside0.mk (blk_below (g := gb363) (o := .cells #[.int .i64 a0_0, .int .i64 a0_1, .int .i64 a0_2, .int .i64 a0_3, .int .i64 a0_4, .int .i64 a0_5, .int .i64 a0_6, .int .i64 a0_7, .int .i64 a0_8, .int .i64 a0_9, .slice A0_10 l0_10.length c0_10] 32 (0, 0)) (by (with_reducible repeat (first | refine blk_drewN ?_ _ | refine blk_drew ?_ | refine blk_alloc ?_ _)); exact BK363.out) hb); have n1_ := Aside0.mk (blk_below (g := gb364) (o := .cells #[.int .i64 a1_0, .int .i64 a1_1, .int .i64 a1_2, .int .i64 a1_3, .int .i64 a1_4, .int .i64 a1_5, .int .i64 a1_6, .int .i64 a1_7, .int .i64 a1_8, .int .i64 a1_9, .slice A1_10 l1_10.length c1_10] 32 (0, 0)) (by (with_reducible repeat (first | refine blk_drewN ?_ _ | refine blk_drew ?_ | refine blk_alloc ?_ _)); exact BK364.out) hb); have n2_ := Aside0.mk (below_step (by repeat (first | (with_reducible first | exact HB.out | apply below_alloc | apply pw_below_drewN | apply below_drew1 | refine below_set ?_ GE363.out | refine below_set ?_ GE364.out) | exact HB.out)) hb); clear BK363; clear BK364; clear HB; have BK363 := n0_; have BK364 := n1_; have HB := n2_; clear n0_ n1_ n2_; (try clear hb); (try clear hb2); (try clear hk); (try clear hi)))
       go_ret
       exact ⟨by first | rfl | (simp [errW_none, errW_some] <;> rfl) | (simp [*, errW_none, errW_some] <;> rfl), by repeat (first | (with_reducible first | exact HB.out | apply below_alloc | apply pw_below_drewN | apply below_drew1 | refine below_set ?_ GE363.out | refine below_set ?_ GE364.out) | exact HB.out)⟩
      ·rw [if_neg c23] at H
       have c23b0 : (t368 == 0) = false := beq_eq_false_iff_ne.mpr c23
       have c23b1 : (t368 != 0) = true := bne_iff_ne.mpr c23
       by_cases c26 : t367.toList = ([] : List UInt8)
       ·rw [if_pos c26] at H
        have c26b0 : (t367.toList == ([] : List UInt8)) = true := beq_iff_eq.mpr c26
        have c26b1 : (t367.toList != ([] : List UInt8)) = false := bne_eq_false_iff_eq.mpr c26
        clear c26
        replace H := Option.bind_eq_some_iff.mp H
        obtain ⟨t372, A270, H⟩ := H
        replace H : (some t372) = some r := H
        have A27 := Aside0.mk A270
        clear A270
        obtain rfl := Option.some.inj H
        go_wp2_with (first | (go_at_call 18; (with_reducible refine (switchboardlaw07_awake.calls kj4  t372 _ A27.out).mono ?_); rintro e w28 ⟨rfl, hb⟩; have n0_ := Aside0.mk (blk_below (g := gb363) (o := .cells #[.int .i64 a0_0, .int .i64 a0_1, .int .i64 a0_2, .int .i64 a0_3, .int .i64 a0_4, .int .i64 a0_5, .int .i64 a0_6, .int .i64 a0_7, .int .i64 a0_8, .int .i64 a0_9, .slice A0_10 l0_10.length c0_10] 32 (0, 0)) (by (with_reducible repeat (first | refine blk_drewN ?_ _ | refine blk_drew ?_ | refine blk_alloc ?_ _)); exact BK363.out) hb); have n1_ := Aside0.mk (blk_below (g := gb364) (o := .cells #[.int .i64 a1_0, .int .i64 a1_1, .int .i64 a1_2, .int .i64 a1_3, .int .i64 a1_4, .int .i64 a1_5, .int .i64 a1_6, .int .i64 a1_7, .int .i64 a1_8, .int .i64 a1_9, .slice A1_10 l1_10.length c1_10] 32 (0, 0)) (by (with_reducible repeat (first | refine blk_drewN ?_ _ | refine blk_drew ?_ | refine blk_alloc ?_ _)); exact BK364.out) hb); have n2_ := Aside0.mk (below_step (by repeat (first | (with_reducible first | exact HB.out | apply below_alloc | apply pw_below_drewN | apply below_drew1 | refine below_set ?_ GE363.out | refine below_set ?_ GE364.out) | exact HB.out)) hb); clear BK363; clear BK364; clear HB; have BK363 := n0_; have BK364 := n1_; have HB := n2_; clear n0_ n1_ n2_; (try clear hb); (try clear hb2); (try clear hk); (try clear hi)))
        go_ret
        exact ⟨by first | rfl | (simp [errW_none, errW_some] <;> rfl) | (simp [*, errW_none, errW_some] <;> rfl), by repeat (first | (with_reducible first | exact HB.out | apply below_alloc | apply pw_below_drewN | apply below_drew1 | refine below_set ?_ GE363.out | refine below_set ?_ GE364.out) | exact HB.out)⟩
       ·rw [if_neg c26] at H
        have c26b0 : (t367.toList == ([] : List UInt8)) = false := beq_eq_false_iff_ne.mpr c26
        have c26b1 : (t367.toList != ([] : List UInt8)) = true := bne_iff_ne.mpr c26
        obtain rfl := Option.some.inj H
        go_wp2
        go_ret
        exact ⟨by first | rfl | (simp [errW_none, errW_some] <;> rfl) | (simp [*, errW_none, errW_some] <;> rfl), by repeat (first | (with_reducible first | exact HB.out | apply below_alloc | apply pw_below_drewN | apply below_drew1 | refine below_set ?_ GE363.out | refine below_set ?_ GE364.out) | exact HB.out)⟩
     ·rw [if_neg c22] at H
      have c22b0 : (t365.toList == ([] : List UInt8)) = false := beq_eq_false_iff_ne.mpr c22
      have c22b1 : (t365.toList != ([] : List UInt8)) = true := bne_iff_ne.mpr c22
      obtain rfl := Option.some.inj H
      go_wp2
      go_ret
      exact ⟨by first | rfl | (simp [errW_none, errW_some] <;> rfl) | (simp [*, errW_none, errW_some] <;> rfl), by repeat (first | (with_reducible first | exact HB.out | apply below_alloc | apply pw_below_drewN | apply below_drew1 | refine below_set ?_ GE363.out | refine below_set ?_ GE364.out) | exact HB.out)⟩
   ·replace c14 := Bool.eq_false_iff.mpr c14
    subst c14
    have H1 : ((switchboardref07_Same.f kj4 a0_0 a0_1 a0_2 a0_3 a0_4 a0_5 a0_6 a0_7 a0_8 a0_9 l0_10 a1_0 a1_1 a1_2 a1_3 a1_4 a1_5 a1_6 a1_7 a1_8 a1_9 l1_10).bind fun t373 => (if ((t365.toList == t367.toList) == t373) = true then ((switchboardlaw07_awake.f kj4).bind fun t374 => (some t374)) else (some false))) = some r := by rw [if_neg (show ¬ (false = true) by decide)] at H; exact H
    clear H
    have H := H1
    clear H1
    replace H := Option.bind_eq_some_iff.mp H
    obtain ⟨t373, A290, H⟩ := H
    replace H : (if ((t365.toList == t367.toList) == t373) = true then ((switchboardlaw07_awake.f kj4).bind fun t374 => (some t374)) else (some false)) = some r := H
    have A29 := Aside0.mk A290
    clear A290
    by_cases c30 : ((t365.toList == t367.toList) == t373) = true
    ·rw [if_pos c30] at H
     have c30b0 : ((t365.toList == t367.toList) == t373) = true := c30
     (try (have c30b1 : decide ((t365.toList == t367.toList) = t373) = true := by simpa using c30))
     (try (have c30b2 : ((t365.toList == t367.toList) == t373) = true := by simpa using c30))
     clear c30
     replace H := Option.bind_eq_some_iff.mp H
     obtain ⟨t374, A310, H⟩ := H
     replace H : (some t374) = some r := H
     have A31 := Aside0.mk A310
     clear A310
     obtain rfl := Option.some.inj H
     have hnb32 := NB363_364.out
     have hnc32 := NB364_363.out
     have hcz33_0 : wc.cell? ⟨gb363, 0, none⟩ = some (.int .i64 a0_0) := (blk_cell BK363.out 0).trans rfl
     have hcz33_1 : wc.cell? ⟨gb363, 1, none⟩ = some (.int .i64 a0_1) := (blk_cell BK363.out 1).trans rfl
     have hcz33_2 : wc.cell? ⟨gb363, 2, none⟩ = some (.int .i64 a0_2) := (blk_cell BK363.out 2).trans rfl
     have hcz33_3 : wc.cell? ⟨gb363, 3, none⟩ = some (.int .i64 a0_3) := (blk_cell BK363.out 3).trans rfl
     have hcz33_4 : wc.cell? ⟨gb363, 4, none⟩ = some (.int .i64 a0_4) := (blk_cell BK363.out 4).trans rfl
     have hcz33_5 : wc.cell? ⟨gb363, 5, none⟩ = some (.int .i64 a0_5) := (blk_cell BK363.out 5).trans rfl
     have hcz33_6 : wc.cell? ⟨gb363, 6, none⟩ = some (.int .i64 a0_6) := (blk_cell BK363.out 6).trans rfl
     have hcz33_7 : wc.cell? ⟨gb363, 7, none⟩ = some (.int .i64 a0_7) := (blk_cell BK363.out 7).trans rfl
     have hcz33_8 : wc.cell? ⟨gb363, 8, none⟩ = some (.int .i64 a0_8) := (blk_cell BK363.out 8).trans rfl
     have hcz33_9 : wc.cell? ⟨gb363, 9, none⟩ = some (.int .i64 a0_9) := (blk_cell BK363.out 9).trans rfl
     have hcz33_10 : wc.cell? ⟨gb363, 10, none⟩ = some (.slice A0_10 l0_10.length c0_10) := (blk_cell BK363.out 10).trans rfl
     have hfz33_0 := blk_frozen BK363.out 0
     have hfz33_1 := blk_frozen BK363.out 1
     have hfz33_2 := blk_frozen BK363.out 2
     have hfz33_3 := blk_frozen BK363.out 3
     have hfz33_4 := blk_frozen BK363.out 4
     have hfz33_5 := blk_frozen BK363.out 5
     have hfz33_6 := blk_frozen BK363.out 6
     have hfz33_7 := blk_frozen BK363.out 7
     have hfz33_8 := blk_frozen BK363.out 8
     have hfz33_9 := blk_frozen BK363.out 9
     have hfz33_10 := blk_frozen BK363.out 10
     have hcz34_0 : wc.cell? ⟨gb364, 0, none⟩ = some (.int .i64 a1_0) := (blk_cell BK364.out 0).trans rfl
     have hcz34_1 : wc.cell? ⟨gb364, 1, none⟩ = some (.int .i64 a1_1) := (blk_cell BK364.out 1).trans rfl
     have hcz34_2 : wc.cell? ⟨gb364, 2, none⟩ = some (.int .i64 a1_2) := (blk_cell BK364.out 2).trans rfl
     have hcz34_3 : wc.cell? ⟨gb364, 3, none⟩ = some (.int .i64 a1_3) := (blk_cell BK364.out 3).trans rfl
     have hcz34_4 : wc.cell? ⟨gb364, 4, none⟩ = some (.int .i64 a1_4) := (blk_cell BK364.out 4).trans rfl
     have hcz34_5 : wc.cell? ⟨gb364, 5, none⟩ = some (.int .i64 a1_5) := (blk_cell BK364.out 5).trans rfl
     have hcz34_6 : wc.cell? ⟨gb364, 6, none⟩ = some (.int .i64 a1_6) := (blk_cell BK364.out 6).trans rfl
     have hcz34_7 : wc.cell? ⟨gb364, 7, none⟩ = some (.int .i64 a1_7) := (blk_cell BK364.out 7).trans rfl
     have hcz34_8 : wc.cell? ⟨gb364, 8, none⟩ = some (.int .i64 a1_8) := (blk_cell BK364.out 8).trans rfl
     have hcz34_9 : wc.cell? ⟨gb364, 9, none⟩ = some (.int .i64 a1_9) := (blk_cell BK364.out 9).trans rfl
     have hcz34_10 : wc.cell? ⟨gb364, 10, none⟩ = some (.slice A1_10 l1_10.length c1_10) := (blk_cell BK364.out 10).trans rfl
     have hfz34_0 := blk_frozen BK364.out 0
     have hfz34_1 := blk_frozen BK364.out 1
     have hfz34_2 := blk_frozen BK364.out 2
     have hfz34_3 := blk_frozen BK364.out 3
     have hfz34_4 := blk_frozen BK364.out 4
     have hfz34_5 := blk_frozen BK364.out 5
     have hfz34_6 := blk_frozen BK364.out 6
     have hfz34_7 := blk_frozen BK364.out 7
     have hfz34_8 := blk_frozen BK364.out 8
     have hfz34_9 := blk_frozen BK364.out 9
     have hfz34_10 := blk_frozen BK364.out 10
     go_wp2_with (first | ((with_reducible refine gate_callee (f := 24) rfl ?_); refine goesL_ (some 47) rfl rfl Try.func24 (by kernel_rfl) rfl #[.agg #[.int .i64 a0_0, .int .i64 a0_1, .int .i64 a0_2, .int .i64 a0_3, .int .i64 a0_4, .int .i64 a0_5, .int .i64 a0_6, .int .i64 a0_7, .int .i64 a0_8, .int .i64 a0_9, .slice A0_10 l0_10.length c0_10], .agg #[.int .i64 a1_0, .int .i64 a1_1, .int .i64 a1_2, .int .i64 a1_3, .int .i64 a1_4, .int .i64 a1_5, .int .i64 a1_6, .int .i64 a1_7, .int .i64 a1_8, .int .i64 a1_9, .slice A1_10 l1_10.length c1_10]] rfl (by (try simp only [List.map_toArray, List.map_cons, List.map_nil]); first | done | rfl | (simp only [ByteArray.size_append, Int.natCast_add, List.length_drop, List.length_take]; first | done | rfl) | (simp only [List.length_drop, List.length_take]; rfl)) ?_; (with_reducible refine (switchboardref07_Same.calls kj4 a0_0 a0_1 a0_2 a0_3 a0_4 a0_5 a0_6 a0_7 a0_8 a0_9 _ _ l0_10 a1_0 a1_1 a1_2 a1_3 a1_4 a1_5 a1_6 a1_7 a1_8 a1_9 _ _ l1_10 t373 _ ?side1 ?side2 ?side3 ?side4 A29.out).mono ?_); (case side1 => repeat (first | exact (Kd.C_below HR0_10.out HB.out) | (with_reducible refine Kd.C_alloc ?_ _) | (with_reducible refine Kd.C_drewN ?_ _) | (with_reducible refine Kd.C_drew ?_))); (case side2 => exact HC0_10.out); (case side3 => repeat (first | exact (Kd.C_below HR1_10.out HB.out) | (with_reducible refine Kd.C_alloc ?_ _) | (with_reducible refine Kd.C_drewN ?_ _) | (with_reducible refine Kd.C_drew ?_))); (case side4 => exact HC1_10.out); rintro e w35 ⟨rfl, hb⟩; refine ⟨_, rfl, ?_⟩; have n0_ := Aside0.mk (blk_below (g := gb363) (o := .cells #[.int .i64 a0_0, .int .i64 a0_1, .int .i64 a0_2, .int .i64 a0_3, .int .i64 a0_4, .int .i64 a0_5, .int .i64 a0_6, .int .i64 a0_7, .int .i64 a0_8, .int .i64 a0_9, .slice A0_10 l0_10.length c0_10] 32 (0, 0)) (by (with_reducible repeat (first | refine blk_drewN ?_ _ | refine blk_drew ?_ | refine blk_alloc ?_ _)); exact BK363.out) hb); have n1_ := Aside0.mk (blk_below (g := gb364) (o := .cells #[.int .i64 a1_0, .int .i64 a1_1, .int .i64 a1_2, .int .i64 a1_3, .int .i64 a1_4, .int .i64 a1_5, .int .i64 a1_6, .int .i64 a1_7, .int .i64 a1_8, .int .i64 a1_9, .slice A1_10 l1_10.length c1_10] 32 (0, 0)) (by (with_reducible repeat (first | refine blk_drewN ?_ _ | refine blk_drew ?_ | refine blk_alloc ?_ _)); exact BK364.out) hb); have n2_ := Aside0.mk (below_step (by repeat (first | (with_reducible first | exact HB.out | apply below_alloc | apply pw_below_drewN | apply below_drew1 | refine below_set ?_ GE363.out | refine below_set ?_ GE364.out) | exact HB.out)) hb); clear BK363; clear BK364; clear HB; have BK363 := n0_; have BK364 := n1_; have HB := n2_; clear n0_ n1_ n2_; (try clear hb); (try clear hb2); (try clear hk); (try clear hi)) | (go_at_call 18; (with_reducible refine (switchboardlaw07_awake.calls kj4  t374 _ A31.out).mono ?_); rintro e w36 ⟨rfl, hb⟩; have n0_ := Aside0.mk (blk_below (g := gb363) (o := .cells #[.int .i64 a0_0, .int .i64 a0_1, .int .i64 a0_2, .int .i64 a0_3, .int .i64 a0_4, .int .i64 a0_5, .int .i64 a0_6, .int .i64 a0_7, .int .i64 a0_8, .int .i64 a0_9, .slice A0_10 l0_10.length c0_10] 32 (0, 0)) (by (with_reducible repeat (first | refine blk_drewN ?_ _ | refine blk_drew ?_ | refine blk_alloc ?_ _)); exact BK363.out) hb); have n1_ := Aside0.mk (blk_below (g := gb364) (o := .cells #[.int .i64 a1_0, .int .i64 a1_1, .int .i64 a1_2, .int .i64 a1_3, .int .i64 a1_4, .int .i64 a1_5, .int .i64 a1_6, .int .i64 a1_7, .int .i64 a1_8, .int .i64 a1_9, .slice A1_10 l1_10.length c1_10] 32 (0, 0)) (by (with_reducible repeat (first | refine blk_drewN ?_ _ | refine blk_drew ?_ | refine blk_alloc ?_ _)); exact BK364.out) hb); have n2_ := Aside0.mk (below_step (by repeat (first | (with_reducible first | exact HB.out | apply below_alloc | apply pw_below_drewN | apply below_drew1 | refine below_set ?_ GE363.out | refine below_set ?_ GE364.out) | exact HB.out)) hb); clear BK363; clear BK364; clear HB; have BK363 := n0_; have BK364 := n1_; have HB := n2_; clear n0_ n1_ n2_; (try clear hb); (try clear hb2); (try clear hk); (try clear hi)))
     go_ret
     exact ⟨by first | rfl | (simp [errW_none, errW_some] <;> rfl) | (simp [*, errW_none, errW_some] <;> rfl), by repeat (first | (with_reducible first | exact HB.out | apply below_alloc | apply pw_below_drewN | apply below_drew1 | refine below_set ?_ GE363.out | refine below_set ?_ GE364.out) | exact HB.out)⟩
    ·rw [if_neg c30] at H
     have c30b0 : ((t365.toList == t367.toList) == t373) = false := by simpa using c30
     (try (have c30b1 : decide ((t365.toList == t367.toList) = t373) = false := by simpa using c30))
     (try (have c30b2 : ((t365.toList == t367.toList) == t373) = false := by simpa using c30))
     (try (have c30b3 : ¬ ((t365.toList == t367.toList) = t373) := by simpa using c30))
     clear c30
     obtain rfl := Option.some.inj H
     have hnb37 := NB363_364.out
     have hnc37 := NB364_363.out
     have hcz38_0 : wc.cell? ⟨gb363, 0, none⟩ = some (.int .i64 a0_0) := (blk_cell BK363.out 0).trans rfl
     have hcz38_1 : wc.cell? ⟨gb363, 1, none⟩ = some (.int .i64 a0_1) := (blk_cell BK363.out 1).trans rfl
     have hcz38_2 : wc.cell? ⟨gb363, 2, none⟩ = some (.int .i64 a0_2) := (blk_cell BK363.out 2).trans rfl
     have hcz38_3 : wc.cell? ⟨gb363, 3, none⟩ = some (.int .i64 a0_3) := (blk_cell BK363.out 3).trans rfl
     have hcz38_4 : wc.cell? ⟨gb363, 4, none⟩ = some (.int .i64 a0_4) := (blk_cell BK363.out 4).trans rfl
     have hcz38_5 : wc.cell? ⟨gb363, 5, none⟩ = some (.int .i64 a0_5) := (blk_cell BK363.out 5).trans rfl
     have hcz38_6 : wc.cell? ⟨gb363, 6, none⟩ = some (.int .i64 a0_6) := (blk_cell BK363.out 6).trans rfl
     have hcz38_7 : wc.cell? ⟨gb363, 7, none⟩ = some (.int .i64 a0_7) := (blk_cell BK363.out 7).trans rfl
     have hcz38_8 : wc.cell? ⟨gb363, 8, none⟩ = some (.int .i64 a0_8) := (blk_cell BK363.out 8).trans rfl
     have hcz38_9 : wc.cell? ⟨gb363, 9, none⟩ = some (.int .i64 a0_9) := (blk_cell BK363.out 9).trans rfl
     have hcz38_10 : wc.cell? ⟨gb363, 10, none⟩ = some (.slice A0_10 l0_10.length c0_10) := (blk_cell BK363.out 10).trans rfl
     have hfz38_0 := blk_frozen BK363.out 0
     have hfz38_1 := blk_frozen BK363.out 1
     have hfz38_2 := blk_frozen BK363.out 2
     have hfz38_3 := blk_frozen BK363.out 3
     have hfz38_4 := blk_frozen BK363.out 4
     have hfz38_5 := blk_frozen BK363.out 5
     have hfz38_6 := blk_frozen BK363.out 6
     have hfz38_7 := blk_frozen BK363.out 7
     have hfz38_8 := blk_frozen BK363.out 8
     have hfz38_9 := blk_frozen BK363.out 9
     have hfz38_10 := blk_frozen BK363.out 10
     have hcz39_0 : wc.cell? ⟨gb364, 0, none⟩ = some (.int .i64 a1_0) := (blk_cell BK364.out 0).trans rfl
     have hcz39_1 : wc.cell? ⟨gb364, 1, none⟩ = some (.int .i64 a1_1) := (blk_cell BK364.out 1).trans rfl
     have hcz39_2 : wc.cell? ⟨gb364, 2, none⟩ = some (.int .i64 a1_2) := (blk_cell BK364.out 2).trans rfl
     have hcz39_3 : wc.cell? ⟨gb364, 3, none⟩ = some (.int .i64 a1_3) := (blk_cell BK364.out 3).trans rfl
     have hcz39_4 : wc.cell? ⟨gb364, 4, none⟩ = some (.int .i64 a1_4) := (blk_cell BK364.out 4).trans rfl
     have hcz39_5 : wc.cell? ⟨gb364, 5, none⟩ = some (.int .i64 a1_5) := (blk_cell BK364.out 5).trans rfl
     have hcz39_6 : wc.cell? ⟨gb364, 6, none⟩ = some (.int .i64 a1_6) := (blk_cell BK364.out 6).trans rfl
     have hcz39_7 : wc.cell? ⟨gb364, 7, none⟩ = some (.int .i64 a1_7) := (blk_cell BK364.out 7).trans rfl
     have hcz39_8 : wc.cell? ⟨gb364, 8, none⟩ = some (.int .i64 a1_8) := (blk_cell BK364.out 8).trans rfl
     have hcz39_9 : wc.cell? ⟨gb364, 9, none⟩ = some (.int .i64 a1_9) := (blk_cell BK364.out 9).trans rfl
     have hcz39_10 : wc.cell? ⟨gb364, 10, none⟩ = some (.slice A1_10 l1_10.length c1_10) := (blk_cell BK364.out 10).trans rfl
     have hfz39_0 := blk_frozen BK364.out 0
     have hfz39_1 := blk_frozen BK364.out 1
     have hfz39_2 := blk_frozen BK364.out 2
     have hfz39_3 := blk_frozen BK364.out 3
     have hfz39_4 := blk_frozen BK364.out 4
     have hfz39_5 := blk_frozen BK364.out 5
     have hfz39_6 := blk_frozen BK364.out 6
     have hfz39_7 := blk_frozen BK364.out 7
     have hfz39_8 := blk_frozen BK364.out 8
     have hfz39_9 := blk_frozen BK364.out 9
     have hfz39_10 := blk_frozen BK364.out 10
     go_wp2_with (first | ((with_reducible refine gate_callee (f := 24) rfl ?_); refine goesL_ (some 47) rfl rfl Try.func24 (by kernel_rfl) rfl #[.agg #[.int .i64 a0_0, .int .i64 a0_1, .int .i64 a0_2, .int .i64 a0_3, .int .i64 a0_4, .int .i64 a0_5, .int .i64 a0_6, .int .i64 a0_7, .int .i64 a0_8, .int .i64 a0_9, .slice A0_10 l0_10.length c0_10], .agg #[.int .i64 a1_0, .int .i64 a1_1, .int .i64 a1_2, .int .i64 a1_3, .int .i64 a1_4, .int .i64 a1_5, .int .i64 a1_6, .int .i64 a1_7, .int .i64 a1_8, .int .i64 a1_9, .slice A1_10 l1_10.length c1_10]] rfl (by (try simp only [List.map_toArray, List.map_cons, List.map_nil]); first | done | rfl | (simp only [ByteArray.size_append, Int.natCast_add, List.length_drop, List.length_take]; first | done | rfl) | (simp only [List.length_drop, List.length_take]; rfl)) ?_; (with_reducible refine (switchboardref07_Same.calls kj4 a0_0 a0_1 a0_2 a0_3 a0_4 a0_5 a0_6 a0_7 a0_8 a0_9 _ _ l0_10 a1_0 a1_1 a1_2 a1_3 a1_4 a1_5 a1_6 a1_7 a1_8 a1_9 _ _ l1_10 t373 _ ?side1 ?side2 ?side3 ?side4 A29.out).mono ?_); (case side1 => repeat (first | exact (Kd.C_below HR0_10.out HB.out) | (with_reducible refine Kd.C_alloc ?_ _) | (with_reducible refine Kd.C_drewN ?_ _) | (with_reducible refine Kd.C_drew ?_))); (case side2 => exact HC0_10.out); (case side3 => repeat (first | exact (Kd.C_below HR1_10.out HB.out) | (with_reducible refine Kd.C_alloc ?_ _) | (with_reducible refine Kd.C_drewN ?_ _) | (with_reducible refine Kd.C_drew ?_))); (case side4 => exact HC1_10.out); rintro e w40 ⟨rfl, hb⟩; refine ⟨_, rfl, ?_⟩; have n0_ := Aside0.mk (blk_below (g := gb363) (o := .cells #[.int .i64 a0_0, .int .i64 a0_1, .int .i64 a0_2, .int .i64 a0_3, .int .i64 a0_4, .int .i64 a0_5, .int .i64 a0_6, .int .i64 a0_7, .int .i64 a0_8, .int .i64 a0_9, .slice A0_10 l0_10.length c0_10] 32 (0, 0)) (by (with_reducible repeat (first | refine blk_drewN ?_ _ | refine blk_drew ?_ | refine blk_alloc ?_ _)); exact BK363.out) hb); have n1_ := Aside0.mk (blk_below (g := gb364) (o := .cells #[.int .i64 a1_0, .int .i64 a1_1, .int .i64 a1_2, .int .i64 a1_3, .int .i64 a1_4, .int .i64 a1_5, .int .i64 a1_6, .int .i64 a1_7, .int .i64 a1_8, .int .i64 a1_9, .slice A1_10 l1_10.length c1_10] 32 (0, 0)) (by (with_reducible repeat (first | refine blk_drewN ?_ _ | refine blk_drew ?_ | refine blk_alloc ?_ _)); exact BK364.out) hb); have n2_ := Aside0.mk (below_step (by repeat (first | (with_reducible first | exact HB.out | apply below_alloc | apply pw_below_drewN | apply below_drew1 | refine below_set ?_ GE363.out | refine below_set ?_ GE364.out) | exact HB.out)) hb); clear BK363; clear BK364; clear HB; have BK363 := n0_; have BK364 := n1_; have HB := n2_; clear n0_ n1_ n2_; (try clear hb); (try clear hb2); (try clear hk); (try clear hi)))
     go_ret
     exact ⟨by first | rfl | (simp [errW_none, errW_some] <;> rfl) | (simp [*, errW_none, errW_some] <;> rfl), by repeat (first | (with_reducible first | exact HB.out | apply below_alloc | apply pw_below_drewN | apply below_drew1 | refine below_set ?_ GE363.out | refine below_set ?_ GE364.out) | exact HB.out)⟩

end
end Go.Proofs.Ytgfpkhihdahjlab.QWire
