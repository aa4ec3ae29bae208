-- Printed by a program of this session's own (wip/gen), which turns the kit's printer; not one of the kit's printed texts.
import Derived.Test.YtgfpkhihdahjlabQWirex0
import Derived.Test.YtgfpkhihdahjlabQWirex4
import Derived.Test.YtgfpkhihdahjlabQWirex7
import Derived.Test.YtgfpkhihdahjlabQWirex8
import Derived.Test.YtgfpkhihdahjlabQWirex15
import Derived.Test.YtgfpkhihdahjlabQWirex18
namespace Go.Proofs.Ytgfpkhihdahjlab.QWire
open Go.RowKit Go.Proofs.Ytgfpkhihdahjlab.Given Go.Proofs.YtgfpkhihdahjlabW.PrintWords Go.Proofs.YtgfpkhihdahjlabW.PrintLast Go.Proofs.YtgfpkhihdahjlabW.PrintMore
attribute [local go_sem] max2_int min2_int max_two min_two max_three min_three max_four min_four   -- for this text's walks alone
set_option linter.unusedVariables false
set_option linter.unusedSimpArgs false
noncomputable section

/-! ### switchboardlaw07_WireTakes: function 8 -/
def switchboardlaw07_WireTakes.j0 : Nat → ByteArray → Int → Bool → Int → Int → Int → Int → Int → Int → Int → Int → Int → Int → List Int → Option (Bool)
 | 0, _, _, _, _, _, _, _, _, _, _, _, _, _, _ => none
 | k + 1, x0, x4, x31, x303000, x303001, x303002, x303003, x303004, x303005, x303006, x303007, x303008, x303009, x303010 => if x31 = true then (some false) else ((wire_Put.f k x303000 x303001 x303002 x303003 x303004 x303005 x303006 x303007 x303008 x303009 x303010).bind fun bt319 => (if x4 = 0 then (if bt319.1.toList = x0.toList then (if bt319.2 = 0 then ((switchboardlaw07_awake.f k).bind fun t321 => (some t321)) else (some false)) else (some false)) else ((switchboardlaw07_awake.f k).bind fun t322 => (some t322))))
def switchboardlaw07_WireTakes.f (k : Nat) (a0 : ByteArray) : Option (Bool) := if (a0.size : Int) > 200 then ((switchboardlaw07_awake.f k).bind fun t287 => (some t287)) else ((wire_Take.f k a0).bind fun bt288 => ((switchboardref07_Take.f k a0).bind fun bt303 => ((switchboardref07_Same.f k bt288.1 bt288.2.1 bt288.2.2.1 bt288.2.2.2.1 bt288.2.2.2.2.1 bt288.2.2.2.2.2.1 bt288.2.2.2.2.2.2.1 bt288.2.2.2.2.2.2.2.1 bt288.2.2.2.2.2.2.2.2.1 bt288.2.2.2.2.2.2.2.2.2.1 bt288.2.2.2.2.2.2.2.2.2.2.1 bt303.1 bt303.2.1 bt303.2.2.1 bt303.2.2.2.1 bt303.2.2.2.2.1 bt303.2.2.2.2.2.1 bt303.2.2.2.2.2.2.1 bt303.2.2.2.2.2.2.2.1 bt303.2.2.2.2.2.2.2.2.1 bt303.2.2.2.2.2.2.2.2.2.1 bt303.2.2.2.2.2.2.2.2.2.2.1).bind fun t318 => (if t318 = true then (switchboardlaw07_WireTakes.j0 k a0 bt288.2.2.2.2.2.2.2.2.2.2.2 (bt288.2.2.2.2.2.2.2.2.2.2.2 != bt303.2.2.2.2.2.2.2.2.2.2.2) bt288.1 bt288.2.1 bt288.2.2.1 bt288.2.2.2.1 bt288.2.2.2.2.1 bt288.2.2.2.2.2.1 bt288.2.2.2.2.2.2.1 bt288.2.2.2.2.2.2.2.1 bt288.2.2.2.2.2.2.2.2.1 bt288.2.2.2.2.2.2.2.2.2.1 bt288.2.2.2.2.2.2.2.2.2.2.1) else (switchboardlaw07_WireTakes.j0 k a0 bt288.2.2.2.2.2.2.2.2.2.2.2 true bt288.1 bt288.2.1 bt288.2.2.1 bt288.2.2.2.1 bt288.2.2.2.2.1 bt288.2.2.2.2.2.1 bt288.2.2.2.2.2.2.1 bt288.2.2.2.2.2.2.2.1 bt288.2.2.2.2.2.2.2.2.1 bt288.2.2.2.2.2.2.2.2.2.1 bt288.2.2.2.2.2.2.2.2.2.2.1)))))
theorem switchboardlaw07_WireTakes.mono_l : ∀ k, (∀ y0 y1 y2 y3 y4 y5 y6 y7 y8 y9 y10 y11 y12 y13, LeO (switchboardlaw07_WireTakes.j0 k y0 y1 y2 y3 y4 y5 y6 y7 y8 y9 y10 y11 y12 y13) (switchboardlaw07_WireTakes.j0 (k + 1) y0 y1 y2 y3 y4 y5 y6 y7 y8 y9 y10 y11 y12 y13))
 | 0 => fun _ _ _ _ _ _ _ _ _ _ _ _ _ _ r h => by simp [switchboardlaw07_WireTakes.j0] at h
 | k + 1 => by
  have ih0 := switchboardlaw07_WireTakes.mono_l k
  ·intro y0 y1 y2 y3 y4 y5 y6 y7 y8 y9 y10 y11 y12 y13
   unfold switchboardlaw07_WireTakes.j0
   repeat' first
   | (with_reducible exact ih0 _ _ _ _ _ _ _ _ _ _ _ _ _ _)
   | (with_reducible exact switchboardlaw07_awake.mono _)
   | (with_reducible exact switchboardref07_Same.mono _ _ _ _ _ _ _ _ _ _ _ _ _ _ _ _ _ _ _ _ _ _ _)
   | (with_reducible exact switchboardref07_Take.mono _ _)
   | (with_reducible exact wire_Put.mono _ _ _ _ _ _ _ _ _ _ _ _)
   | (with_reducible exact wire_Take.mono _ _)
   | (with_reducible exact LeO.refl _)
   | (with_reducible exact LeO.none _)
   | (with_reducible refine LeO.ite ?_ ?_)
   | (with_reducible refine LeO.bind ?_ (fun _ => ?_))
   | exact ih0 _ _ _ _ _ _ _ _ _ _ _ _ _ _
   | exact switchboardlaw07_awake.mono _
   | exact switchboardref07_Same.mono _ _ _ _ _ _ _ _ _ _ _ _ _ _ _ _ _ _ _ _ _ _ _
   | exact switchboardref07_Take.mono _ _
   | exact wire_Put.mono _ _ _ _ _ _ _ _ _ _ _ _
   | exact wire_Take.mono _ _
   | exact LeO.none _
   | refine LeO.ite ?_ ?_
   | refine LeO.bind ?_ (fun _ => ?_)
theorem switchboardlaw07_WireTakes.mono : ∀ a0 k, LeO (switchboardlaw07_WireTakes.f k a0) (switchboardlaw07_WireTakes.f (k + 1) a0) := by
 intro a0 k
 have ih0 := switchboardlaw07_WireTakes.mono_l k
 unfold switchboardlaw07_WireTakes.f
 repeat' first
   | (with_reducible exact ih0 _ _ _ _ _ _ _ _ _ _ _ _ _ _)
   | (with_reducible exact switchboardlaw07_awake.mono _)
   | (with_reducible exact switchboardref07_Same.mono _ _ _ _ _ _ _ _ _ _ _ _ _ _ _ _ _ _ _ _ _ _ _)
   | (with_reducible exact switchboardref07_Take.mono _ _)
   | (with_reducible exact wire_Put.mono _ _ _ _ _ _ _ _ _ _ _ _)
   | (with_reducible exact wire_Take.mono _ _)
   | (with_reducible exact LeO.refl _)
   | (with_reducible exact LeO.none _)
   | (with_reducible refine LeO.ite ?_ ?_)
   | (with_reducible refine LeO.bind ?_ (fun _ => ?_))
   | exact ih0 _ _ _ _ _ _ _ _ _ _ _ _ _ _
   | exact switchboardlaw07_awake.mono _
   | exact switchboardref07_Same.mono _ _ _ _ _ _ _ _ _ _ _ _ _ _ _ _ _ _ _ _ _ _ _
   | exact switchboardref07_Take.mono _ _
   | exact wire_Put.mono _ _ _ _ _ _ _ _ _ _ _ _
   | exact wire_Take.mono _ _
   | exact LeO.none _
   | refine LeO.ite ?_ ?_
   | refine LeO.bind ?_ (fun _ => ?_)
set_option maxHeartbeats 8000000 in
set_option maxRecDepth 100000 in
theorem switchboardlaw07_WireTakes.calls (k : Nat) (a0 : ByteArray) (r : Bool) (w : World) (h : switchboardlaw07_WireTakes.f k a0 = some r) :
  Calls Try.prog 8 #[.string a0] w fun e w' => e = .returned (.bool r) ∧ Below w.heap.size w w' := by
 have hu32 := Try.underlying32
 have HB := Aside0.mk (Below.refl w.heap.size w)
 have H : (if (a0.size : Int) > 200 then ((switchboardlaw07_awake.f k).bind fun t287 => (some t287)) else ((wire_Take.f k a0).bind fun bt288 => ((switchboardref07_Take.f k a0).bind fun bt303 => ((switchboardref07_Same.f k bt288.1 bt288.2.1 bt288.2.2.1 bt288.2.2.2.1 bt288.2.2.2.2.1 bt288.2.2.2.2.2.1 bt288.2.2.2.2.2.2.1 bt288.2.2.2.2.2.2.2.1 bt288.2.2.2.2.2.2.2.2.1 bt288.2.2.2.2.2.2.2.2.2.1 bt288.2.2.2.2.2.2.2.2.2.2.1 bt303.1 bt303.2.1 bt303.2.2.1 bt303.2.2.2.1 bt303.2.2.2.2.1 bt303.2.2.2.2.2.1 bt303.2.2.2.2.2.2.1 bt303.2.2.2.2.2.2.2.1 bt303.2.2.2.2.2.2.2.2.1 bt303.2.2.2.2.2.2.2.2.2.1 bt303.2.2.2.2.2.2.2.2.2.2.1).bind fun t318 => (if t318 = true then (switchboardlaw07_WireTakes.j0 k a0 bt288.2.2.2.2.2.2.2.2.2.2.2 (bt288.2.2.2.2.2.2.2.2.2.2.2 != bt303.2.2.2.2.2.2.2.2.2.2.2) bt288.1 bt288.2.1 bt288.2.2.1 bt288.2.2.2.1 bt288.2.2.2.2.1 bt288.2.2.2.2.2.1 bt288.2.2.2.2.2.2.1 bt288.2.2.2.2.2.2.2.1 bt288.2.2.2.2.2.2.2.2.1 bt288.2.2.2.2.2.2.2.2.2.1 bt288.2.2.2.2.2.2.2.2.2.2.1) else (switchboardlaw07_WireTakes.j0 k a0 bt288.2.2.2.2.2.2.2.2.2.2.2 true bt288.1 bt288.2.1 bt288.2.2.1 bt288.2.2.2.1 bt288.2.2.2.2.1 bt288.2.2.2.2.2.1 bt288.2.2.2.2.2.2.1 bt288.2.2.2.2.2.2.2.1 bt288.2.2.2.2.2.2.2.2.1 bt288.2.2.2.2.2.2.2.2.2.1 bt288.2.2.2.2.2.2.2.2.2.2.1)))))) = some r := h
 clear h
 by_cases c2 : (a0.size : Int) > 200
 ·rw [if_pos c2] at H
  have c2b0 : decide (200 < (a0.size : Int)) = true := decide_eq_true c2
  have c2b1 : decide (200 < a0.size) = true := decide_eq_true (by omega)
  clear c2
  replace H := Option.bind_eq_some_iff.mp H
  obtain ⟨t287, A30, H⟩ := H
  replace H : (some t287) = some r := H
  have A3 := Aside0.mk A30
  clear A30
  obtain rfl := Option.some.inj H
  go_enter Try.func8, Try.ntmps8
  go_wp2_with (first | ((with_reducible refine gate_callee (f := 18) rfl ?_); refine goesL_ (some 12) rfl rfl Try.func18 (by kernel_rfl) rfl #[] rfl (by (try simp only [List.map_toArray, List.map_cons, List.map_nil]); first | done | rfl | (simp only [ByteArray.size_append, Int.natCast_add, List.length_drop, List.length_take]; first | done | rfl) | (simp only [List.length_drop, List.length_take]; rfl)) ?_; (with_reducible refine (switchboardlaw07_awake.calls k  t287 _ A3.out).mono ?_); rintro e w4 ⟨rfl, hb⟩; refine ⟨_, rfl, ?_⟩; have n0_ := Aside0.mk (below_step (by repeat (first | (with_reducible first | exact HB.out | apply below_alloc | apply pw_below_drewN | apply below_drew1) | exact HB.out)) hb); clear HB; have HB := n0_; clear n0_; (try clear hb); (try clear hb2); (try clear hk); (try clear hi)))
  go_ret
  exact ⟨by first | rfl | (simp [errW_none, errW_some] <;> rfl) | (simp [*, errW_none, errW_some] <;> rfl), by repeat (first | (with_reducible first | exact HB.out | apply below_alloc | apply pw_below_drewN | apply below_drew1) | exact HB.out)⟩
 ·rw [if_neg c2] at H
  have c2b0 : decide (200 < (a0.size : Int)) = false := decide_eq_false c2
  have c2b1 : decide (200 < a0.size) = false := decide_eq_false (by omega)
  clear c2
  replace H := Option.bind_eq_some_iff.mp H
  obtain ⟨⟨t288, t289, t290, t291, t292, t293, t294, t295, t296, t297, t298, t301⟩, A50, H⟩ := H
  replace H : ((switchboardref07_Take.f k a0).bind fun bt303 => ((switchboardref07_Same.f k t288 t289 t290 t291 t292 t293 t294 t295 t296 t297 t298 bt303.1 bt303.2.1 bt303.2.2.1 bt303.2.2.2.1 bt303.2.2.2.2.1 bt303.2.2.2.2.2.1 bt303.2.2.2.2.2.2.1 bt303.2.2.2.2.2.2.2.1 bt303.2.2.2.2.2.2.2.2.1 bt303.2.2.2.2.2.2.2.2.2.1 bt303.2.2.2.2.2.2.2.2.2.2.1).bind fun t318 => (if t318 = true then (switchboardlaw07_WireTakes.j0 k a0 t301 (t301 != bt303.2.2.2.2.2.2.2.2.2.2.2) t288 t289 t290 t291 t292 t293 t294 t295 t296 t297 t298) else (switchboardlaw07_WireTakes.j0 k a0 t301 true t288 t289 t290 t291 t292 t293 t294 t295 t296 t297 t298)))) = some r := H
  have A5 := Aside0.mk A50
  clear A50
  replace H := Option.bind_eq_some_iff.mp H
  obtain ⟨⟨t303, t304, t305, t306, t307, t308, t309, t310, t311, t312, t313, t316⟩, A60, H⟩ := H
  replace H : ((switchboardref07_Same.f k t288 t289 t290 t291 t292 t293 t294 t295 t296 t297 t298 t303 t304 t305 t306 t307 t308 t309 t310 t311 t312 t313).bind fun t318 => (if t318 = true then (switchboardlaw07_WireTakes.j0 k a0 t301 (t301 != t316) t288 t289 t290 t291 t292 t293 t294 t295 t296 t297 t298) else (switchboardlaw07_WireTakes.j0 k a0 t301 true t288 t289 t290 t291 t292 t293 t294 t295 t296 t297 t298))) = some r := H
  have A6 := Aside0.mk A60
  clear A60
  have HC7 := Aside0.mk H
  clear H
  go_enter Try.func8, Try.ntmps8
  go_upto_region 5 with (first | ((with_reducible refine gate_callee (f := 22) rfl ?_); refine goesL_ (some 15) rfl rfl Try.func22 (by kernel_rfl) rfl #[.string a0] rfl (by (try simp only [List.map_toArray, List.map_cons, List.map_nil]); first | done | rfl | (simp only [ByteArray.size_append, Int.natCast_add, List.length_drop, List.length_take]; first | done | rfl) | (simp only [List.length_drop, List.length_take]; rfl)) ?_; (with_reducible refine (wire_Take.calls k a0 t288 t289 t290 t291 t292 t293 t294 t295 t296 t297 t298 t301 _ A5.out).mono ?_); rintro e w8 ⟨v299, rfl, ho0, hb⟩; refine ⟨_, rfl, ?_⟩; have n0_ := Aside0.mk (Kd.R_lower ho0 (below_size (by repeat (first | (with_reducible first | exact HB.out | apply below_alloc | apply pw_below_drewN | apply below_drew1) | exact HB.out)))); have n1_ := Aside0.mk (below_step (by repeat (first | (with_reducible first | exact HB.out | apply below_alloc | apply pw_below_drewN | apply below_drew1) | exact HB.out)) hb); clear HB; have HO300 := n0_; have HB := n1_; clear n0_ n1_; (try clear hb); (try clear hb2); (try clear hk); (try clear hi); (try clear ho0)) | ((with_reducible refine gate_dst (N := 3) rfl ?_); refine box_event ?hg (N := 3) ?hd (cs := #[.int .i64 0, .int .i64 0, .int .i64 0, .int .i64 0, .int .i64 0, .int .i64 0, .int .i64 0, .int .i64 0, .int .i64 0, .int .i64 0, .slice none 0 0]) (t := 32) ?hr ?_; (case hd => rfl); (case hg => rfl); (case hr => first | (go_simp; done) | (go_simp; rfl)); intro gb302 hg w9 hbox hb; have n0_ := Aside0.mk (Kd.R_below (by (with_reducible repeat (first | apply Kd.R_alloc | apply Kd.R_drewN | apply Kd.R_drew)); exact HO300.out) hb); have n1_ := Aside0.mk (below_step (by repeat (first | (with_reducible first | exact HB.out | apply below_alloc | apply pw_below_drewN | apply below_drew1) | exact HB.out)) hb); have n2_ := Aside0.mk (hbox); have n3_ := Aside0.mk ((by rw [hg]; exact (below_size (by repeat (first | (with_reducible first | exact HB.out | apply below_alloc | apply pw_below_drewN | apply below_drew1) | exact HB.out))) : w.heap.size ≤ gb302)); have n4_ := Aside0.mk ((by rw [hg]; exact (below_size (by repeat (first | (with_reducible first | exact HB.out | apply below_alloc | apply pw_below_drewN | apply below_drew1) | exact HB.out))) : w.heap.size ≤ gb302)); clear HO300; clear HB; have HO300 := n0_; have HB := n1_; have BK302 := n2_; have GW302 := n3_; have GE302 := n4_; clear n0_ n1_ n2_ n3_ n4_; clear hb hbox hg; have hcz10_0 : w9.cell? ⟨gb302, 0, none⟩ = some (.int .i64 0) := (blk_cell BK302.out 0).trans rfl; have hcz10_1 : w9.cell? ⟨gb302, 1, none⟩ = some (.int .i64 0) := (blk_cell BK302.out 1).trans rfl; have hcz10_2 : w9.cell? ⟨gb302, 2, none⟩ = some (.int .i64 0) := (blk_cell BK302.out 2).trans rfl; have hcz10_3 : w9.cell? ⟨gb302, 3, none⟩ = some (.int .i64 0) := (blk_cell BK302.out 3).trans rfl; have hcz10_4 : w9.cell? ⟨gb302, 4, none⟩ = some (.int .i64 0) := (blk_cell BK302.out 4).trans rfl; have hcz10_5 : w9.cell? ⟨gb302, 5, none⟩ = some (.int .i64 0) := (blk_cell BK302.out 5).trans rfl; have hcz10_6 : w9.cell? ⟨gb302, 6, none⟩ = some (.int .i64 0) := (blk_cell BK302.out 6).trans rfl; have hcz10_7 : w9.cell? ⟨gb302, 7, none⟩ = some (.int .i64 0) := (blk_cell BK302.out 7).trans rfl; have hcz10_8 : w9.cell? ⟨gb302, 8, none⟩ = some (.int .i64 0) := (blk_cell BK302.out 8).trans rfl; have hcz10_9 : w9.cell? ⟨gb302, 9, none⟩ = some (.int .i64 0) := (blk_cell BK302.out 9).trans rfl; have hcz10_10 : w9.cell? ⟨gb302, 10, none⟩ = some (.slice none 0 0) := (blk_cell BK302.out 10).trans rfl; have hfz10_0 := blk_frozen BK302.out 0; have hfz10_1 := blk_frozen BK302.out 1; have hfz10_2 := blk_frozen BK302.out 2; have hfz10_3 := blk_frozen BK302.out 3; have hfz10_4 := blk_frozen BK302.out 4; have hfz10_5 := blk_frozen BK302.out 5; have hfz10_6 := blk_frozen BK302.out 6; have hfz10_7 := blk_frozen BK302.out 7; have hfz10_8 := blk_frozen BK302.out 8; have hfz10_9 := blk_frozen BK302.out 9; have hfz10_10 := blk_frozen BK302.out 10; obtain ⟨Ao11, co11, eo11⟩ := Kd.R_slice HO300.out; subst eo11) | ((with_reducible refine gate_callee (f := 25) rfl ?_); refine goesL_ (some 20) rfl rfl Try.func25 (by kernel_rfl) rfl #[.string a0] rfl (by (try simp only [List.map_toArray, List.map_cons, List.map_nil]); first | done | rfl | (simp only [ByteArray.size_append, Int.natCast_add, List.length_drop, List.length_take]; first | done | rfl) | (simp only [List.length_drop, List.length_take]; rfl)) ?_; (with_reducible refine (switchboardref07_Take.calls k a0 t303 t304 t305 t306 t307 t308 t309 t310 t311 t312 t313 t316 _ A6.out).mono ?_); rintro e w12 ⟨v314, rfl, ho0, hb⟩; refine ⟨_, rfl, ?_⟩; have n0_ := Aside0.mk (Kd.R_elder' (by (with_reducible repeat (first | apply Kd.R_alloc | apply Kd.R_drewN | apply Kd.R_drew)); exact (Kd.R_mono (Kd.R_far (p := ⟨gb302, 10, none⟩) (Kd.R_far (p := ⟨gb302, 9, none⟩) (Kd.R_far (p := ⟨gb302, 8, none⟩) (Kd.R_far (p := ⟨gb302, 7, none⟩) (Kd.R_far (p := ⟨gb302, 6, none⟩) (Kd.R_far (p := ⟨gb302, 5, none⟩) (Kd.R_far (p := ⟨gb302, 4, none⟩) (Kd.R_far (p := ⟨gb302, 3, none⟩) (Kd.R_far (p := ⟨gb302, 2, none⟩) (Kd.R_far (p := ⟨gb302, 1, none⟩) (Kd.R_far (p := ⟨gb302, 0, none⟩) (Kd.R_types HO300.out BK302.out (by decide)) (fun _ hk => hk.2) (.int .i64 t288)) (fun _ hk => hk.2) (.int .i64 t289)) (fun _ hk => hk.2) (.int .i64 t290)) (fun _ hk => hk.2) (.int .i64 t291)) (fun _ hk => hk.2) (.int .i64 t292)) (fun _ hk => hk.2) (.int .i64 t293)) (fun _ hk => hk.2) (.int .i64 t294)) (fun _ hk => hk.2) (.int .i64 t295)) (fun _ hk => hk.2) (.int .i64 t296)) (fun _ hk => hk.2) (.int .i64 t297)) (fun _ hk => hk.2) (.slice Ao11 t298.length co11)) (fun _ h_ => h_.1))) (Kd.R_base ho0) hb); have n1_ := Aside0.mk (Kd.R_lower (Kd.R_new' ho0 (Kd.R_lt (by (with_reducible repeat (first | apply Kd.R_alloc | apply Kd.R_drewN | apply Kd.R_drew)); exact (Kd.R_mono (Kd.R_far (p := ⟨gb302, 10, none⟩) (Kd.R_far (p := ⟨gb302, 9, none⟩) (Kd.R_far (p := ⟨gb302, 8, none⟩) (Kd.R_far (p := ⟨gb302, 7, none⟩) (Kd.R_far (p := ⟨gb302, 6, none⟩) (Kd.R_far (p := ⟨gb302, 5, none⟩) (Kd.R_far (p := ⟨gb302, 4, none⟩) (Kd.R_far (p := ⟨gb302, 3, none⟩) (Kd.R_far (p := ⟨gb302, 2, none⟩) (Kd.R_far (p := ⟨gb302, 1, none⟩) (Kd.R_far (p := ⟨gb302, 0, none⟩) (Kd.R_types HO300.out BK302.out (by decide)) (fun _ hk => hk.2) (.int .i64 t288)) (fun _ hk => hk.2) (.int .i64 t289)) (fun _ hk => hk.2) (.int .i64 t290)) (fun _ hk => hk.2) (.int .i64 t291)) (fun _ hk => hk.2) (.int .i64 t292)) (fun _ hk => hk.2) (.int .i64 t293)) (fun _ hk => hk.2) (.int .i64 t294)) (fun _ hk => hk.2) (.int .i64 t295)) (fun _ hk => hk.2) (.int .i64 t296)) (fun _ hk => hk.2) (.int .i64 t297)) (fun _ hk => hk.2) (.slice Ao11 t298.length co11)) (fun _ h_ => h_.1))))) (below_size (by repeat (first | (with_reducible first | exact HB.out | apply below_alloc | apply pw_below_drewN | apply below_drew1 | refine below_set ?_ GE302.out) | exact HB.out)))); have n2_ := Aside0.mk (blk_below (g := gb302) (o := .cells #[.int .i64 t288, .int .i64 t289, .int .i64 t290, .int .i64 t291, .int .i64 t292, .int .i64 t293, .int .i64 t294, .int .i64 t295, .int .i64 t296, .int .i64 t297, .slice Ao11 t298.length co11] 32 (0, 0)) (by (with_reducible repeat (first | refine blk_drewN ?_ _ | refine blk_drew ?_ | refine blk_alloc ?_ _)); refine blk_put (cs := #[.int .i64 t288, .int .i64 t289, .int .i64 t290, .int .i64 t291, .int .i64 t292, .int .i64 t293, .int .i64 t294, .int .i64 t295, .int .i64 t296, .int .i64 t297, .slice none 0 0]) ?_ 10 _ rfl; (with_reducible repeat (first | refine blk_drewN ?_ _ | refine blk_drew ?_ | refine blk_alloc ?_ _)); refine blk_put (cs := #[.int .i64 t288, .int .i64 t289, .int .i64 t290, .int .i64 t291, .int .i64 t292, .int .i64 t293, .int .i64 t294, .int .i64 t295, .int .i64 t296, .int .i64 0, .slice none 0 0]) ?_ 9 _ rfl; (with_reducible repeat (first | refine blk_drewN ?_ _ | refine blk_drew ?_ | refine blk_alloc ?_ _)); refine blk_put (cs := #[.int .i64 t288, .int .i64 t289, .int .i64 t290, .int .i64 t291, .int .i64 t292, .int .i64 t293, .int .i64 t294, .int .i64 t295, .int .i64 0, .int .i64 0, .slice none 0 0]) ?_ 8 _ rfl; (with_reducible repeat (first | refine blk_drewN ?_ _ | refine blk_drew ?_ | refine blk_alloc ?_ _)); refine blk_put (cs := #[.int .i64 t288, .int .i64 t289, .int .i64 t290, .int .i64 t291, .int .i64 t292, .int .i64 t293, .int .i64 t294, .int .i64 0, .int .i64 0, .int .i64 0, .slice none 0 0]) ?_ 7 _ rfl; (with_reducible repeat (first | refine blk_drewN ?_ _ | refine blk_drew ?_ | refine blk_alloc ?_ _)); refine blk_put (cs := #[.int .i64 t288, .int .i64 t289, .int .i64 t290, .int .i64 t291, .int .i64 t292, .int .i64 t293, .int .i64 0, .int .i64 0, .int .i64 0, .int .i64 0, .slice none 0 0]) ?_ 6 _ rfl; (with_reducible repeat (first | refine blk_drewN ?_ _ | refine blk_drew ?_ | refine blk_alloc ?_ _)); refine blk_put (cs := #[.int .i64 t288, .int .i64 t289, .int .i64 t290, .int .i64 t291, .int .i64 t292, .int .i64 0, .int .i64 0, .int .i64 0, .int .i64 0, .int .i64 0, .slice none 0 0]) ?_ 5 _ rfl; (with_reducible repeat (first | refine blk_drewN ?_ _ | refine blk_drew ?_ | refine blk_alloc ?_ _)); refine blk_put (cs := #[.int .i64 t288, .int .i64 t289, .int .i64 t290, .int .i64 t291, .int .i64 0, .int .i64 0, .int .i64 0, .int .i64 0, .int .i64 0, .int .i64 0, .slice none 0 0]) ?_ 4 _ rfl; (with_reducible repeat (first | refine blk_drewN ?_ _ | refine blk_drew ?_ | refine blk_alloc ?_ _)); refine blk_put (cs := #[.int .i64 t288, .int .i64 t289, .int .i64 t290, .int .i64 0, .int .i64 0, .int .i64 0, .int .i64 0, .int .i64 0, .int .i64 0, .int .i64 0, .slice none 0 0]) ?_ 3 _ rfl; (with_reducible repeat (first | refine blk_drewN ?_ _ | refine blk_drew ?_ | refine blk_alloc ?_ _)); refine blk_put (cs := #[.int .i64 t288, .int .i64 t289, .int .i64 0, .int .i64 0, .int .i64 0, .int .i64 0, .int .i64 0, .int .i64 0, .int .i64 0, .int .i64 0, .slice none 0 0]) ?_ 2 _ rfl; (with_reducible repeat (first | refine blk_drewN ?_ _ | refine blk_drew ?_ | refine blk_alloc ?_ _)); refine blk_put (cs := #[.int .i64 t288, .int .i64 0, .int .i64 0, .int .i64 0, .int .i64 0, .int .i64 0, .int .i64 0, .int .i64 0, .int .i64 0, .int .i64 0, .slice none 0 0]) ?_ 1 _ rfl; (with_reducible repeat (first | refine blk_drewN ?_ _ | refine blk_drew ?_ | refine blk_alloc ?_ _)); refine blk_put (cs := #[.int .i64 0, .int .i64 0, .int .i64 0, .int .i64 0, .int .i64 0, .int .i64 0, .int .i64 0, .int .i64 0, .int .i64 0, .int .i64 0, .slice none 0 0]) ?_ 0 _ rfl; (with_reducible repeat (first | refine blk_drewN ?_ _ | refine blk_drew ?_ | refine blk_alloc ?_ _)); exact BK302.out) hb); have n3_ := Aside0.mk (below_step (by repeat (first | (with_reducible first | exact HB.out | apply below_alloc | apply pw_below_drewN | apply below_drew1 | refine below_set ?_ GE302.out) | exact HB.out)) hb); clear HO300; clear BK302; clear HB; have HO300 := n0_; have HO315 := n1_; have BK302 := n2_; have HB := n3_; clear n0_ n1_ n2_ n3_; (try clear hb); (try clear hb2); (try clear hk); (try clear hi); (try clear ho0)) | ((with_reducible refine gate_dst (N := 5) rfl ?_); refine box_event ?hg (N := 5) ?hd (cs := #[.int .i64 0, .int .i64 0, .int .i64 0, .int .i64 0, .int .i64 0, .int .i64 0, .int .i64 0, .int .i64 0, .int .i64 0, .int .i64 0, .slice none 0 0]) (t := 32) ?hr ?_; (case hd => rfl); (case hg => rfl); (case hr => first | (go_simp; done) | (go_simp; rfl)); intro gb317 hg w13 hbox hb; have n0_ := Aside0.mk (Kd.R_below (by (with_reducible repeat (first | apply Kd.R_alloc | apply Kd.R_drewN | apply Kd.R_drew)); exact HO300.out) hb); have n1_ := Aside0.mk (Kd.R_below (by (with_reducible repeat (first | apply Kd.R_alloc | apply Kd.R_drewN | apply Kd.R_drew)); exact HO315.out) hb); have n2_ := Aside0.mk (blk_below (g := gb302) (o := .cells #[.int .i64 t288, .int .i64 t289, .int .i64 t290, .int .i64 t291, .int .i64 t292, .int .i64 t293, .int .i64 t294, .int .i64 t295, .int .i64 t296, .int .i64 t297, .slice Ao11 t298.length co11] 32 (0, 0)) (by (with_reducible repeat (first | refine blk_drewN ?_ _ | refine blk_drew ?_ | refine blk_alloc ?_ _)); exact BK302.out) hb); have n3_ := Aside0.mk (below_step (by repeat (first | (with_reducible first | exact HB.out | apply below_alloc | apply pw_below_drewN | apply below_drew1 | refine below_set ?_ GE302.out) | exact HB.out)) hb); have n4_ := Aside0.mk (hbox); have n5_ := Aside0.mk ((by rw [hg]; exact (below_size (by repeat (first | (with_reducible first | exact HB.out | apply below_alloc | apply pw_below_drewN | apply below_drew1 | refine below_set ?_ GE302.out) | exact HB.out))) : w.heap.size ≤ gb317)); have n6_ := Aside0.mk ((by rw [hg]; exact (below_size (by repeat (first | (with_reducible first | exact HB.out | apply below_alloc | apply pw_below_drewN | apply below_drew1 | refine below_set ?_ GE302.out) | exact HB.out))) : w.heap.size ≤ gb317)); have n7_ := Aside0.mk ((by rw [hg]; exact Nat.ne_of_lt (blk_lt (g := gb302) (o := .cells #[.int .i64 t288, .int .i64 t289, .int .i64 t290, .int .i64 t291, .int .i64 t292, .int .i64 t293, .int .i64 t294, .int .i64 t295, .int .i64 t296, .int .i64 t297, .slice Ao11 t298.length co11] 32 (0, 0)) (by (with_reducible repeat (first | refine blk_drewN ?_ _ | refine blk_drew ?_ | refine blk_alloc ?_ _)); exact BK302.out)) : gb302 ≠ gb317)); have n8_ := Aside0.mk ((by rw [hg]; exact Nat.ne_of_gt (blk_lt (g := gb302) (o := .cells #[.int .i64 t288, .int .i64 t289, .int .i64 t290, .int .i64 t291, .int .i64 t292, .int .i64 t293, .int .i64 t294, .int .i64 t295, .int .i64 t296, .int .i64 t297, .slice Ao11 t298.length co11] 32 (0, 0)) (by (with_reducible repeat (first | refine blk_drewN ?_ _ | refine blk_drew ?_ | refine blk_alloc ?_ _)); exact BK302.out)) : gb317 ≠ gb302)); clear HO300; clear HO315; clear BK302; clear HB; have HO300 := n0_; have HO315 := n1_; have BK302 := n2_; have HB := n3_; have BK317 := n4_; have GW317 := n5_; have GE317 := n6_; have NB302_317 := n7_; have NB317_302 := n8_; clear n0_ n1_ n2_ n3_ n4_ n5_ n6_ n7_ n8_; clear hb hbox hg; have hnb14 := NB317_302.out; have hnc14 := NB302_317.out; have hcz15_0 : w13.cell? ⟨gb317, 0, none⟩ = some (.int .i64 0) := (blk_cell BK317.out 0).trans rfl; have hcz15_1 : w13.cell? ⟨gb317, 1, none⟩ = some (.int .i64 0) := (blk_cell BK317.out 1).trans rfl; have hcz15_2 : w13.cell? ⟨gb317, 2, none⟩ = some (.int .i64 0) := (blk_cell BK317.out 2).trans rfl; have hcz15_3 : w13.cell? ⟨gb317, 3, none⟩ = some (.int .i64 0) := (blk_cell BK317.out 3).trans rfl; have hcz15_4 : w13.cell? ⟨gb317, 4, none⟩ = some (.int .i64 0) := (blk_cell BK317.out 4).trans rfl; have hcz15_5 : w13.cell? ⟨gb317, 5, none⟩ = some (.int .i64 0) := (blk_cell BK317.out 5).trans rfl; have hcz15_6 : w13.cell? ⟨gb317, 6, none⟩ = some (.int .i64 0) := (blk_cell BK317.out 6).trans rfl; have hcz15_7 : w13.cell? ⟨gb317, 7, none⟩ = some (.int .i64 0) := (blk_cell BK317.out 7).trans rfl; have hcz15_8 : w13.cell? ⟨gb317, 8, none⟩ = some (.int .i64 0) := (blk_cell BK317.out 8).trans rfl; have hcz15_9 : w13.cell? ⟨gb317, 9, none⟩ = some (.int .i64 0) := (blk_cell BK317.out 9).trans rfl; have hcz15_10 : w13.cell? ⟨gb317, 10, none⟩ = some (.slice none 0 0) := (blk_cell BK317.out 10).trans rfl; have hfz15_0 := blk_frozen BK317.out 0; have hfz15_1 := blk_frozen BK317.out 1; have hfz15_2 := blk_frozen BK317.out 2; have hfz15_3 := blk_frozen BK317.out 3; have hfz15_4 := blk_frozen BK317.out 4; have hfz15_5 := blk_frozen BK317.out 5; have hfz15_6 := blk_frozen BK317.out 6; have hfz15_7 := blk_frozen BK317.out 7; have hfz15_8 := blk_frozen BK317.out 8; have hfz15_9 := blk_frozen BK317.out 9; have hfz15_10 := blk_frozen BK317.out 10; obtain ⟨Ao16, co16, eo16⟩ := Kd.R_slice HO315.out; subst eo16))
  (try simp only [Act.put, List.setIfInBounds_toArray, List.set_cons_zero, List.set_cons_succ])
  go_cut [31] (fun v31 wc => ∃ (kq : Nat) (x31_6 : Bool), v31 = .bool x31_6 ∧ Aside0 (switchboardlaw07_WireTakes.j0 kq a0 t301 x31_6 t288 t289 t290 t291 t292 t293 t294 t295 t296 t297 t298 = some r) ∧ Aside0 (kq ≤ k) ∧ Aside0 (Kd.R (Kd.int .i64) 3 wc w.heap.size (fun k_ => some k_ ≠ ((.slice Ao16 t313.length co16) : Value).ownBlock) (.slice Ao11 t298.length co11) t298) ∧ Aside0 (Kd.R (Kd.int .i64) 3 wc w.heap.size (fun k_ => some k_ ≠ ((.slice Ao11 t298.length co11) : Value).ownBlock) (.slice Ao16 t313.length co16) t313) ∧ Aside0 (wc.heap[gb302]? = some (.cells #[.int .i64 t288, .int .i64 t289, .int .i64 t290, .int .i64 t291, .int .i64 t292, .int .i64 t293, .int .i64 t294, .int .i64 t295, .int .i64 t296, .int .i64 t297, (.slice Ao11 t298.length co11)] 32 (0, 0))) ∧ Aside0 (wc.heap[gb317]? = some (.cells #[.int .i64 t303, .int .i64 t304, .int .i64 t305, .int .i64 t306, .int .i64 t307, .int .i64 t308, .int .i64 t309, .int .i64 t310, .int .i64 t311, .int .i64 t312, (.slice Ao16 t313.length co16)] 32 (0, 0))) ∧ Aside0 (Below w.heap.size w wc))
  case first =>
   have H := HC7.out
   clear HC7
   replace H := Option.bind_eq_some_iff.mp H
   obtain ⟨t318, A170, H⟩ := H
   replace H : (if t318 = true then (switchboardlaw07_WireTakes.j0 k a0 t301 (t301 != t316) t288 t289 t290 t291 t292 t293 t294 t295 t296 t297 t298) else (switchboardlaw07_WireTakes.j0 k a0 t301 true t288 t289 t290 t291 t292 t293 t294 t295 t296 t297 t298)) = some r := H
   have A17 := Aside0.mk A170
   clear A170
   by_cases c18 : t318 = true
   ·subst c18
    have H1 : (switchboardlaw07_WireTakes.j0 k a0 t301 (t301 != t316) t288 t289 t290 t291 t292 t293 t294 t295 t296 t297 t298) = some r := by rw [if_pos rfl] at H; exact H
    clear H
    have H := H1
    clear H1
    have H' := Aside0.mk H
    clear H
    have hnb19 := NB302_317.out
    have hnc19 := NB317_302.out
    have hcz20_0 : w13.cell? ⟨gb302, 0, none⟩ = some (.int .i64 t288) := (blk_cell BK302.out 0).trans rfl
    have hcz20_1 : w13.cell? ⟨gb302, 1, none⟩ = some (.int .i64 t289) := (blk_cell BK302.out 1).trans rfl
    have hcz20_2 : w13.cell? ⟨gb302, 2, none⟩ = some (.int .i64 t290) := (blk_cell BK302.out 2).trans rfl
    have hcz20_3 : w13.cell? ⟨gb302, 3, none⟩ = some (.int .i64 t291) := (blk_cell BK302.out 3).trans rfl
    have hcz20_4 : w13.cell? ⟨gb302, 4, none⟩ = some (.int .i64 t292) := (blk_cell BK302.out 4).trans rfl
    have hcz20_5 : w13.cell? ⟨gb302, 5, none⟩ = some (.int .i64 t293) := (blk_cell BK302.out 5).trans rfl
    have hcz20_6 : w13.cell? ⟨gb302, 6, none⟩ = some (.int .i64 t294) := (blk_cell BK302.out 6).trans rfl
    have hcz20_7 : w13.cell? ⟨gb302, 7, none⟩ = some (.int .i64 t295) := (blk_cell BK302.out 7).trans rfl
    have hcz20_8 : w13.cell? ⟨gb302, 8, none⟩ = some (.int .i64 t296) := (blk_cell BK302.out 8).trans rfl
    have hcz20_9 : w13.cell? ⟨gb302, 9, none⟩ = some (.int .i64 t297) := (blk_cell BK302.out 9).trans rfl
    have hcz20_10 : w13.cell? ⟨gb302, 10, none⟩ = some (.slice Ao11 t298.length co11) := (blk_cell BK302.out 10).trans rfl
    have hfz20_0 := blk_frozen BK302.out 0
    have hfz20_1 := blk_frozen BK302.out 1
    have hfz20_2 := blk_frozen BK302.out 2
    have hfz20_3 := blk_frozen BK302.out 3
    have hfz20_4 := blk_frozen BK302.out 4
    have hfz20_5 := blk_frozen BK302.out 5
    have hfz20_6 := blk_frozen BK302.out 6
    have hfz20_7 := blk_frozen BK302.out 7
    have hfz20_8 := blk_frozen BK302.out 8
    have hfz20_9 := blk_frozen BK302.out 9
    have hfz20_10 := blk_frozen BK302.out 10
    have hcz21_0 : w13.cell? ⟨gb317, 0, none⟩ = some (.int .i64 0) := (blk_cell BK317.out 0).trans rfl
    have hcz21_1 : w13.cell? ⟨gb317, 1, none⟩ = some (.int .i64 0) := (blk_cell BK317.out 1).trans rfl
    have hcz21_2 : w13.cell? ⟨gb317, 2, none⟩ = some (.int .i64 0) := (blk_cell BK317.out 2).trans rfl
    have hcz21_3 : w13.cell? ⟨gb317, 3, none⟩ = some (.int .i64 0) := (blk_cell BK317.out 3).trans rfl
    have hcz21_4 : w13.cell? ⟨gb317, 4, none⟩ = some (.int .i64 0) := (blk_cell BK317.out 4).trans rfl
    have hcz21_5 : w13.cell? ⟨gb317, 5, none⟩ = some (.int .i64 0) := (blk_cell BK317.out 5).trans rfl
    have hcz21_6 : w13.cell? ⟨gb317, 6, none⟩ = some (.int .i64 0) := (blk_cell BK317.out 6).trans rfl
    have hcz21_7 : w13.cell? ⟨gb317, 7, none⟩ = some (.int .i64 0) := (blk_cell BK317.out 7).trans rfl
    have hcz21_8 : w13.cell? ⟨gb317, 8, none⟩ = some (.int .i64 0) := (blk_cell BK317.out 8).trans rfl
    have hcz21_9 : w13.cell? ⟨gb317, 9, none⟩ = some (.int .i64 0) := (blk_cell BK317.out 9).trans rfl
    have hcz21_10 : w13.cell? ⟨gb317, 10, none⟩ = some (.slice none 0 0) := (blk_cell BK317.out 10).trans rfl
    have hfz21_0 := blk_frozen BK317.out 0
    have hfz21_1 := blk_frozen BK317.out 1
    have hfz21_2 := blk_frozen BK317.out 2
    have hfz21_3 := blk_frozen BK317.out 3
    have hfz21_4 := blk_frozen BK317.out 4
    have hfz21_5 := blk_frozen BK317.out 5
    have hfz21_6 := blk_frozen BK317.out 6
    have hfz21_7 := blk_frozen BK317.out 7
    have hfz21_8 := blk_frozen BK317.out 8
    have hfz21_9 := blk_frozen BK317.out 9
    have hfz21_10 := blk_frozen BK317.out 10
    go_wp2_with (first | ((with_reducible refine gate_callee (f := 24) rfl ?_); refine goesL_ (some 25) rfl rfl Try.func24 (by kernel_rfl) rfl #[.agg #[.int .i64 t288, .int .i64 t289, .int .i64 t290, .int .i64 t291, .int .i64 t292, .int .i64 t293, .int .i64 t294, .int .i64 t295, .int .i64 t296, .int .i64 t297, .slice Ao11 t298.length co11], .agg #[.int .i64 t303, .int .i64 t304, .int .i64 t305, .int .i64 t306, .int .i64 t307, .int .i64 t308, .int .i64 t309, .int .i64 t310, .int .i64 t311, .int .i64 t312, .slice Ao16 t313.length co16]] rfl (by (try simp only [List.map_toArray, List.map_cons, List.map_nil]); first | done | rfl | (simp only [ByteArray.size_append, Int.natCast_add, List.length_drop, List.length_take]; first | done | rfl) | (simp only [List.length_drop, List.length_take]; rfl)) ?_; (with_reducible refine (switchboardref07_Same.calls k t288 t289 t290 t291 t292 t293 t294 t295 t296 t297 _ _ t298 t303 t304 t305 t306 t307 t308 t309 t310 t311 t312 _ _ t313 true _ ?side1 ?side2 ?side3 ?side4 A17.out).mono ?_); (case side1 => refine (Kd.R_reads' (e := 3) (base := w.heap.size) (ok := fun k_ => (True ∧ some k_ ≠ (.slice Ao16 t313.length co16 : Value).ownBlock)) (n := t298.length) (c := co11) ?_).2.2; exact (by (with_reducible repeat (first | apply Kd.R_alloc | apply Kd.R_drewN | apply Kd.R_drew)); exact (Kd.R_mono (Kd.R_far (p := ⟨gb317, 10, none⟩) (Kd.R_far (p := ⟨gb317, 9, none⟩) (Kd.R_far (p := ⟨gb317, 8, none⟩) (Kd.R_far (p := ⟨gb317, 7, none⟩) (Kd.R_far (p := ⟨gb317, 6, none⟩) (Kd.R_far (p := ⟨gb317, 5, none⟩) (Kd.R_far (p := ⟨gb317, 4, none⟩) (Kd.R_far (p := ⟨gb317, 3, none⟩) (Kd.R_far (p := ⟨gb317, 2, none⟩) (Kd.R_far (p := ⟨gb317, 1, none⟩) (Kd.R_far (p := ⟨gb317, 0, none⟩) (Kd.R_types HO300.out BK317.out (by decide)) (fun _ hk => hk.2) (.int .i64 t303)) (fun _ hk => hk.2) (.int .i64 t304)) (fun _ hk => hk.2) (.int .i64 t305)) (fun _ hk => hk.2) (.int .i64 t306)) (fun _ hk => hk.2) (.int .i64 t307)) (fun _ hk => hk.2) (.int .i64 t308)) (fun _ hk => hk.2) (.int .i64 t309)) (fun _ hk => hk.2) (.int .i64 t310)) (fun _ hk => hk.2) (.int .i64 t311)) (fun _ hk => hk.2) (.int .i64 t312)) (fun _ hk => hk.2) (.slice Ao16 t313.length co16)) (fun _ h_ => h_.1)))); (case side2 => exact (Kd.R_reads' HO300.out).2.1); (case side3 => refine (Kd.R_reads' (e := 3) (base := w.heap.size) (ok := fun k_ => (True ∧ some k_ ≠ (.slice Ao11 t298.length co11 : Value).ownBlock)) (n := t313.length) (c := co16) ?_).2.2; exact (by (with_reducible repeat (first | apply Kd.R_alloc | apply Kd.R_drewN | apply Kd.R_drew)); exact (Kd.R_mono (Kd.R_far (p := ⟨gb317, 10, none⟩) (Kd.R_far (p := ⟨gb317, 9, none⟩) (Kd.R_far (p := ⟨gb317, 8, none⟩) (Kd.R_far (p := ⟨gb317, 7, none⟩) (Kd.R_far (p := ⟨gb317, 6, none⟩) (Kd.R_far (p := ⟨gb317, 5, none⟩) (Kd.R_far (p := ⟨gb317, 4, none⟩) (Kd.R_far (p := ⟨gb317, 3, none⟩) (Kd.R_far (p := ⟨gb317, 2, none⟩) (Kd.R_far (p := ⟨gb317, 1, none⟩) (Kd.R_far (p := ⟨gb317, 0, none⟩) (Kd.R_types HO315.out BK317.out (by decide)) (fun _ hk => hk.2) (.int .i64 t303)) (fun _ hk => hk.2) (.int .i64 t304)) (fun _ hk => hk.2) (.int .i64 t305)) (fun _ hk => hk.2) (.int .i64 t306)) (fun _ hk => hk.2) (.int .i64 t307)) (fun _ hk => hk.2) (.int .i64 t308)) (fun _ hk => hk.2) (.int .i64 t309)) (fun _ hk => hk.2) (.int .i64 t310)) (fun _ hk => hk.2) (.int .i64 t311)) (fun _ hk => hk.2) (.int .i64 t312)) (fun _ hk => hk.2) (.slice Ao16 t313.length co16)) (fun _ h_ => h_.1)))); (case side4 => exact (Kd.R_reads' HO315.out).2.1); rintro e w22 ⟨rfl, hb⟩; refine ⟨_, rfl, ?_⟩; have n0_ := Aside0.mk (Kd.R_below (by (with_reducible repeat (first | apply Kd.R_alloc | apply Kd.R_drewN | apply Kd.R_drew)); exact (Kd.R_mono (Kd.R_far (p := ⟨gb317, 10, none⟩) (Kd.R_far (p := ⟨gb317, 9, none⟩) (Kd.R_far (p := ⟨gb317, 8, none⟩) (Kd.R_far (p := ⟨gb317, 7, none⟩) (Kd.R_far (p := ⟨gb317, 6, none⟩) (Kd.R_far (p := ⟨gb317, 5, none⟩) (Kd.R_far (p := ⟨gb317, 4, none⟩) (Kd.R_far (p := ⟨gb317, 3, none⟩) (Kd.R_far (p := ⟨gb317, 2, none⟩) (Kd.R_far (p := ⟨gb317, 1, none⟩) (Kd.R_far (p := ⟨gb317, 0, none⟩) (Kd.R_types HO300.out BK317.out (by decide)) (fun _ hk => hk.2) (.int .i64 t303)) (fun _ hk => hk.2) (.int .i64 t304)) (fun _ hk => hk.2) (.int .i64 t305)) (fun _ hk => hk.2) (.int .i64 t306)) (fun _ hk => hk.2) (.int .i64 t307)) (fun _ hk => hk.2) (.int .i64 t308)) (fun _ hk => hk.2) (.int .i64 t309)) (fun _ hk => hk.2) (.int .i64 t310)) (fun _ hk => hk.2) (.int .i64 t311)) (fun _ hk => hk.2) (.int .i64 t312)) (fun _ hk => hk.2) (.slice Ao16 t313.length co16)) (fun _ h_ => h_.1))) hb); have n1_ := Aside0.mk (Kd.R_below (by (with_reducible repeat (first | apply Kd.R_alloc | apply Kd.R_drewN | apply Kd.R_drew)); exact (Kd.R_mono (Kd.R_far (p := ⟨gb317, 10, none⟩) (Kd.R_far (p := ⟨gb317, 9, none⟩) (Kd.R_far (p := ⟨gb317, 8, none⟩) (Kd.R_far (p := ⟨gb317, 7, none⟩) (Kd.R_far (p := ⟨gb317, 6, none⟩) (Kd.R_far (p := ⟨gb317, 5, none⟩) (Kd.R_far (p := ⟨gb317, 4, none⟩) (Kd.R_far (p := ⟨gb317, 3, none⟩) (Kd.R_far (p := ⟨gb317, 2, none⟩) (Kd.R_far (p := ⟨gb317, 1, none⟩) (Kd.R_far (p := ⟨gb317, 0, none⟩) (Kd.R_types HO315.out BK317.out (by decide)) (fun _ hk => hk.2) (.int .i64 t303)) (fun _ hk => hk.2) (.int .i64 t304)) (fun _ hk => hk.2) (.int .i64 t305)) (fun _ hk => hk.2) (.int .i64 t306)) (fun _ hk => hk.2) (.int .i64 t307)) (fun _ hk => hk.2) (.int .i64 t308)) (fun _ hk => hk.2) (.int .i64 t309)) (fun _ hk => hk.2) (.int .i64 t310)) (fun _ hk => hk.2) (.int .i64 t311)) (fun _ hk => hk.2) (.int .i64 t312)) (fun _ hk => hk.2) (.slice Ao16 t313.length co16)) (fun _ h_ => h_.1))) hb); have n2_ := Aside0.mk (blk_below (g := gb302) (o := .cells #[.int .i64 t288, .int .i64 t289, .int .i64 t290, .int .i64 t291, .int .i64 t292, .int .i64 t293, .int .i64 t294, .int .i64 t295, .int .i64 t296, .int .i64 t297, .slice Ao11 t298.length co11] 32 (0, 0)) (by (with_reducible repeat (first | refine blk_drewN ?_ _ | refine blk_drew ?_ | refine blk_alloc ?_ _)); refine blk_far ?_ NB302_317.out _; (with_reducible repeat (first | refine blk_drewN ?_ _ | refine blk_drew ?_ | refine blk_alloc ?_ _)); refine blk_far ?_ NB302_317.out _; (with_reducible repeat (first | refine blk_drewN ?_ _ | refine blk_drew ?_ | refine blk_alloc ?_ _)); refine blk_far ?_ NB302_317.out _; (with_reducible repeat (first | refine blk_drewN ?_ _ | refine blk_drew ?_ | refine blk_alloc ?_ _)); refine blk_far ?_ NB302_317.out _; (with_reducible repeat (first | refine blk_drewN ?_ _ | refine blk_drew ?_ | refine blk_alloc ?_ _)); refine blk_far ?_ NB302_317.out _; (with_reducible repeat (first | refine blk_drewN ?_ _ | refine blk_drew ?_ | refine blk_alloc ?_ _)); refine blk_far ?_ NB302_317.out _; (with_reducible repeat (first | refine blk_drewN ?_ _ | refine blk_drew ?_ | refine blk_alloc ?_ _)); refine blk_far ?_ NB302_317.out _; (with_reducible repeat (first | refine blk_drewN ?_ _ | refine blk_drew ?_ | refine blk_alloc ?_ _)); refine blk_far ?_ NB302_317.out _; (with_reducible repeat (first | refine blk_drewN ?_ _ | refine blk_drew ?_ | refine blk_alloc ?_ _)); refine blk_far ?_ NB302_317.out _; (with_reducible repeat (first | refine blk_drewN ?_ _ | refine blk_drew ?_ | refine blk_alloc ?_ _)); refine blk_far ?_ NB302_317.out _; (with_reducible repeat (first | refine blk_drewN ?_ _ | refine blk_drew ?_ | refine blk_alloc ?_ _)); refine blk_far ?_ NB302_317.out _; (with_reducible repeat (first | refine blk_drewN ?_ _ | refine blk_drew ?_ | refine blk_alloc ?_ _)); exact BK302.out) hb); have n3_ := Aside0.mk (blk_below (g := gb317) (o := .cells #[.int .i64 t303, .int .i64 t304, .int .i64 t305, .int .i64 t306, .int .i64 t307, .int .i64 t308, .int .i64 t309, .int .i64 t310, .int .i64 t311, .int .i64 t312, .slice Ao16 t313.length co16] 32 (0, 0)) (by (with_reducible repeat (first | refine blk_drewN ?_ _ | refine blk_drew ?_ | refine blk_alloc ?_ _)); refine blk_put (cs := #[.int .i64 t303, .int .i64 t304, .int .i64 t305, .int .i64 t306, .int .i64 t307, .int .i64 t308, .int .i64 t309, .int .i64 t310, .int .i64 t311, .int .i64 t312, .slice none 0 0]) ?_ 10 _ rfl; (with_reducible repeat (first | refine blk_drewN ?_ _ | refine blk_drew ?_ | refine blk_alloc ?_ _)); refine blk_put (cs := #[.int .i64 t303, .int .i64 t304, .int .i64 t305, .int .i64 t306, .int .i64 t307, .int .i64 t308, .int .i64 t309, .int .i64 t310, .int .i64 t311, .int .i64 0, .slice none 0 0]) ?_ 9 _ rfl; (with_reducible repeat (first | refine blk_drewN ?_ _ | refine blk_drew ?_ | refine blk_alloc ?_ _)); refine blk_put (cs := #[.int .i64 t303, .int .i64 t304, .int .i64 t305, .int .i64 t306, .int .i64 t307, .int .i64 t308, .int .i64 t309, .int .i64 t310, .int .i64 0, .int .i64 0, .slice none 0 0]) ?_ 8 _ rfl; (with_reducible repeat (first | refine blk_drewN ?_ _ | refine blk_drew ?_ | refine blk_alloc ?_ _)); refine blk_put (cs := #[.int .i64 t303, .int .i64 t304, .int .i64 t305, .int .i64 t306, .int .i64 t307, .int .i64 t308, .int .i64 t309, .int .i64 0, .int .i64 0, .int .i64 0, .slice none 0 0]) ?_ 7 _ rfl; (with_reducible repeat (first | refine blk_drewN ?_ _ | refine blk_drew ?_ | refine blk_alloc ?_ _)); refine blk_put (cs := #[.int .i64 t303, .int .i64 t304, .int .i64 t305, .int .i64 t306, .int .i64 t307, .int .i64 t308, .int .i64 0, .int .i64 0, .int .i64 0, .int .i64 0, .slice none 0 0]) ?_ 6 _ rfl; (with_reducible repeat (first | refine blk_drewN ?_ _ | refine blk_drew ?_ | refine blk_alloc ?_ _)); refine blk_put (cs := #[.int .i64 t303, .int .i64 t304, .int .i64 t305, .int .i64 t306, .int .i64 t307, .int .i64 0, .int .i64 0, .int .i64 0, .int .i64 0, .int .i64 0, .slice none 0 0]) ?_ 5 _ rfl; (with_reducible repeat (first | refine blk_drewN ?_ _ | refine blk_drew ?_ | refine blk_alloc ?_ _)); refine blk_put (cs := #[.int .i64 t303, .int .i64 t304, .int .i64 t305, .int .i64 t306, .int .i64 0, .int .i64 0, .int .i64 0, .int .i64 0, .int .i64 0, .int .i64 0, .slice none 0 0]) ?_ 4 _ rfl; (with_reducible repeat (first | refine blk_drewN ?_ _ | refine blk_drew ?_ | refine blk_alloc ?_ _)); refine blk_put (cs := #[.int .i64 t303, .int .i64 t304, .int .i64 t305, .int .i64 0, .int .i64 0, .int .i64 0, .int .i64 0, .int .i64 0, .int .i64 0, .int .i64 0, .slice none 0 0]) ?_ 3 _ rfl; (with_reducible repeat (first | refine blk_drewN ?_ _ | refine blk_drew ?_ | refine blk_alloc ?_ _)); refine blk_put (cs := #[.int .i64 t303, .int .i64 t304, .int .i64 0, .int .i64 0, .int .i64 0, .int .i64 0, .int .i64 0, .int .i64 0, .int .i64 0, .int .i64 0, .slice none 0 0]) ?_ 2 _ rfl; (with_reducible repeat (first | refine blk_drewN ?_ _ | refine blk_drew ?_ | refine blk_alloc ?_ _)); refine blk_put (cs := #[.int .i64 t303, .int .i64 0, .int .i64 0, .int .i64 0, .int .i64 0, .int .i64 0, .int .i64 0, .int .i64 0, .int .i64 0, .int .i64 0, .slice none 0 0]) ?_ 1 _ rfl; (with_reducible repeat (first | refine blk_drewN ?_ _ | refine blk_drew ?_ | refine blk_alloc ?_ _)); refine blk_put (cs := #[.int .i64 0, .int .i64 0, .int .i64 0, .int .i64 0, .int .i64 0, .int .i64 0, .int .i64 0, .int .i64 0, .int .i64 0, .int .i64 0, .slice none 0 0]) ?_ 0 _ rfl; (with_reducible repeat (first | refine blk_drewN ?_ _ | refine blk_drew ?_ | refine blk_alloc ?_ _)); exact BK317.out) hb); have n4_ := Aside0.mk (below_step (by repeat (first | (with_reducible first | exact HB.out | apply below_alloc | apply pw_below_drewN | apply below_drew1 | refine below_set ?_ GE302.out | refine below_set ?_ GE317.out) | exact HB.out)) hb); clear HO300; clear HO315; clear BK302; clear BK317; clear HB; have HO300 := n0_; have HO315 := n1_; have BK302 := n2_; have BK317 := n3_; have HB := n4_; clear n0_ n1_ n2_ n3_ n4_; (try clear hb); (try clear hb2); (try clear hk); (try clear hi)))
    go_meet
    case rel => exact ⟨_, ((t301 != t316)), (by first | rfl | (simp; done) | (simp [*]; done)), H', ⟨by first | omega | exact Nat.le_refl _⟩, ⟨by (with_reducible repeat (first | apply Kd.R_alloc | apply Kd.R_drewN | apply Kd.R_drew)); exact Kd.R_mono HO300.out (fun _ hk => hk.2)⟩, ⟨by (with_reducible repeat (first | apply Kd.R_alloc | apply Kd.R_drewN | apply Kd.R_drew)); exact Kd.R_mono HO315.out (fun _ hk => hk.2)⟩, ⟨by (with_reducible repeat (first | refine blk_drewN ?_ _ | refine blk_drew ?_ | refine blk_alloc ?_ _)); exact BK302.out⟩, ⟨by (with_reducible repeat (first | refine blk_drewN ?_ _ | refine blk_drew ?_ | refine blk_alloc ?_ _)); exact BK317.out⟩, ⟨by repeat (first | (with_reducible first | exact HB.out | apply below_alloc | apply pw_below_drewN | apply below_drew1 | refine below_set ?_ GE302.out | refine below_set ?_ GE317.out) | exact HB.out)⟩⟩
   ·replace c18 := Bool.eq_false_iff.mpr c18
    subst c18
    have H1 : (switchboardlaw07_WireTakes.j0 k a0 t301 true t288 t289 t290 t291 t292 t293 t294 t295 t296 t297 t298) = some r := by rw [if_neg (show ¬ (false = true) by decide)] at H; exact H
    clear H
    have H := H1
    clear H1
    have H' := Aside0.mk H
    clear H
    have hnb23 := NB302_317.out
    have hnc23 := NB317_302.out
    have hcz24_0 : w13.cell? ⟨gb302, 0, none⟩ = some (.int .i64 t288) := (blk_cell BK302.out 0).trans rfl
    have hcz24_1 : w13.cell? ⟨gb302, 1, none⟩ = some (.int .i64 t289) := (blk_cell BK302.out 1).trans rfl
    have hcz24_2 : w13.cell? ⟨gb302, 2, none⟩ = some (.int .i64 t290) := (blk_cell BK302.out 2).trans rfl
    have hcz24_3 : w13.cell? ⟨gb302, 3, none⟩ = some (.int .i64 t291) := (blk_cell BK302.out 3).trans rfl
    have hcz24_4 : w13.cell? ⟨gb302, 4, none⟩ = some (.int .i64 t292) := (blk_cell BK302.out 4).trans rfl
    have hcz24_5 : w13.cell? ⟨gb302, 5, none⟩ = some (.int .i64 t293) := (blk_cell BK302.out 5).trans rfl
    have hcz24_6 : w13.cell? ⟨gb302, 6, none⟩ = some (.int .i64 t294) := (blk_cell BK302.out 6).trans rfl
    have hcz24_7 : w13.cell? ⟨gb302, 7, none⟩ = some (.int .i64 t295) := (blk_cell BK302.out 7).trans rfl
    have hcz24_8 : w13.cell? ⟨gb302, 8, none⟩ = some (.int .i64 t296) := (blk_cell BK302.out 8).trans rfl
    have hcz24_9 : w13.cell? ⟨gb302, 9, none⟩ = some (.int .i64 t297) := (blk_cell BK302.out 9).trans rfl
    have hcz24_10 : w13.cell? ⟨gb302, 10, none⟩ = some (.slice Ao11 t298.length co11) := (blk_cell BK302.out 10).trans rfl
    have hfz24_0 := blk_frozen BK302.out 0
    have hfz24_1 := blk_frozen BK302.out 1
    have hfz24_2 := blk_frozen BK302.out 2
    have hfz24_3 := blk_frozen BK302.out 3
    have hfz24_4 := blk_frozen BK302.out 4
    have hfz24_5 := blk_frozen BK302.out 5
    have hfz24_6 := blk_frozen BK302.out 6
    have hfz24_7 := blk_frozen BK302.out 7
    have hfz24_8 := blk_frozen BK302.out 8
    have hfz24_9 := blk_frozen BK302.out 9
    have hfz24_10 := blk_frozen BK302.out 10
    have hcz25_0 : w13.cell? ⟨gb317, 0, none⟩ = some (.int .i64 0) := (blk_cell BK317.out 0).trans rfl
    have hcz25_1 : w13.cell? ⟨gb317, 1, none⟩ = some (.int .i64 0) := (blk_cell BK317.out 1).trans rfl
    have hcz25_2 : w13.cell? ⟨gb317, 2, none⟩ = some (.int .i64 0) := (blk_cell BK317.out 2).trans rfl
    have hcz25_3 : w13.cell? ⟨gb317, 3, none⟩ = some (.int .i64 0) := (blk_cell BK317.out 3).trans rfl
    have hcz25_4 : w13.cell? ⟨gb317, 4, none⟩ = some (.int .i64 0) := (blk_cell BK317.out 4).trans rfl
    have hcz25_5 : w13.cell? ⟨gb317, 5, none⟩ = some (.int .i64 0) := (blk_cell BK317.out 5).trans rfl
    have hcz25_6 : w13.cell? ⟨gb317, 6, none⟩ = some (.int .i64 0) := (blk_cell BK317.out 6).trans rfl
    have hcz25_7 : w13.cell? ⟨gb317, 7, none⟩ = some (.int .i64 0) := (blk_cell BK317.out 7).trans rfl
    have hcz25_8 : w13.cell? ⟨gb317, 8, none⟩ = some (.int .i64 0) := (blk_cell BK317.out 8).trans rfl
    have hcz25_9 : w13.cell? ⟨gb317, 9, none⟩ = some (.int .i64 0) := (blk_cell BK317.out 9).trans rfl
    have hcz25_10 : w13.cell? ⟨gb317, 10, none⟩ = some (.slice none 0 0) := (blk_cell BK317.out 10).trans rfl
    have hfz25_0 := blk_frozen BK317.out 0
    have hfz25_1 := blk_frozen BK317.out 1
    have hfz25_2 := blk_frozen BK317.out 2
    have hfz25_3 := blk_frozen BK317.out 3
    have hfz25_4 := blk_frozen BK317.out 4
    have hfz25_5 := blk_frozen BK317.out 5
    have hfz25_6 := blk_frozen BK317.out 6
    have hfz25_7 := blk_frozen BK317.out 7
    have hfz25_8 := blk_frozen BK317.out 8
    have hfz25_9 := blk_frozen BK317.out 9
    have hfz25_10 := blk_frozen BK317.out 10
    go_wp2_with (first | ((with_reducible refine gate_callee (f := 24) rfl ?_); refine goesL_ (some 25) rfl rfl Try.func24 (by kernel_rfl) rfl #[.agg #[.int .i64 t288, .int .i64 t289, .int .i64 t290, .int .i64 t291, .int .i64 t292, .int .i64 t293, .int .i64 t294, .int .i64 t295, .int .i64 t296, .int .i64 t297, .slice Ao11 t298.length co11], .agg #[.int .i64 t303, .int .i64 t304, .int .i64 t305, .int .i64 t306, .int .i64 t307, .int .i64 t308, .int .i64 t309, .int .i64 t310, .int .i64 t311, .int .i64 t312, .slice Ao16 t313.length co16]] rfl (by (try simp only [List.map_toArray, List.map_cons, List.map_nil]); first | done | rfl | (simp only [ByteArray.size_append, Int.natCast_add, List.length_drop, List.length_take]; first | done | rfl) | (simp only [List.length_drop, List.length_take]; rfl)) ?_; (with_reducible refine (switchboardref07_Same.calls k t288 t289 t290 t291 t292 t293 t294 t295 t296 t297 _ _ t298 t303 t304 t305 t306 t307 t308 t309 t310 t311 t312 _ _ t313 false _ ?side1 ?side2 ?side3 ?side4 A17.out).mono ?_); (case side1 => refine (Kd.R_reads' (e := 3) (base := w.heap.size) (ok := fun k_ => (True ∧ some k_ ≠ (.slice Ao16 t313.length co16 : Value).ownBlock)) (n := t298.length) (c := co11) ?_).2.2; exact (by (with_reducible repeat (first | apply Kd.R_alloc | apply Kd.R_drewN | apply Kd.R_drew)); exact (Kd.R_mono (Kd.R_far (p := ⟨gb317, 10, none⟩) (Kd.R_far (p := ⟨gb317, 9, none⟩) (Kd.R_far (p := ⟨gb317, 8, none⟩) (Kd.R_far (p := ⟨gb317, 7, none⟩) (Kd.R_far (p := ⟨gb317, 6, none⟩) (Kd.R_far (p := ⟨gb317, 5, none⟩) (Kd.R_far (p := ⟨gb317, 4, none⟩) (Kd.R_far (p := ⟨gb317, 3, none⟩) (Kd.R_far (p := ⟨gb317, 2, none⟩) (Kd.R_far (p := ⟨gb317, 1, none⟩) (Kd.R_far (p := ⟨gb317, 0, none⟩) (Kd.R_types HO300.out BK317.out (by decide)) (fun _ hk => hk.2) (.int .i64 t303)) (fun _ hk => hk.2) (.int .i64 t304)) (fun _ hk => hk.2) (.int .i64 t305)) (fun _ hk => hk.2) (.int .i64 t306)) (fun _ hk => hk.2) (.int .i64 t307)) (fun _ hk => hk.2) (.int .i64 t308)) (fun _ hk => hk.2) (.int .i64 t309)) (fun _ hk => hk.2) (.int .i64 t310)) (fun _ hk => hk.2) (.int .i64 t311)) (fun _ hk => hk.2) (.int .i64 t312)) (fun _ hk => hk.2) (.slice Ao16 t313.length co16)) (fun _ h_ => h_.1)))); (case side2 => exact (Kd.R_reads' HO300.out).2.1); (case side3 => refine (Kd.R_reads' (e := 3) (base := w.heap.size) (ok := fun k_ => (True ∧ some k_ ≠ (.slice Ao11 t298.length co11 : Value).ownBlock)) (n := t313.length) (c := co16) ?_).2.2; exact (by (with_reducible repeat (first | apply Kd.R_alloc | apply Kd.R_drewN | apply Kd.R_drew)); exact (Kd.R_mono (Kd.R_far (p := ⟨gb317, 10, none⟩) (Kd.R_far (p := ⟨gb317, 9, none⟩) (Kd.R_far (p := ⟨gb317, 8, none⟩) (Kd.R_far (p := ⟨gb317, 7, none⟩) (Kd.R_far (p := ⟨gb317, 6, none⟩) (Kd.R_far (p := ⟨gb317, 5, none⟩) (Kd.R_far (p := ⟨gb317, 4, none⟩) (Kd.R_far (p := ⟨gb317, 3, none⟩) (Kd.R_far (p := ⟨gb317, 2, none⟩) (Kd.R_far (p := ⟨gb317, 1, none⟩) (Kd.R_far (p := ⟨gb317, 0, none⟩) (Kd.R_types HO315.out BK317.out (by decide)) (fun _ hk => hk.2) (.int .i64 t303)) (fun _ hk => hk.2) (.int .i64 t304)) (fun _ hk => hk.2) (.int .i64 t305)) (fun _ hk => hk.2) (.int .i64 t306)) (fun _ hk => hk.2) (.int .i64 t307)) (fun _ hk => hk.2) (.int .i64 t308)) (fun _ hk => hk.2) (.int .i64 t309)) (fun _ hk => hk.2) (.int .i64 t310)) (fun _ hk => hk.2) (.int .i64 t311)) (fun _ hk => hk.2) (.int .i64 t312)) (fun _ hk => hk.2) (.slice Ao16 t313.length co16)) (fun _ h_ => h_.1)))); (case side4 => exact (Kd.R_reads' HO315.out).2.1); rintro e w26 ⟨rfl, hb⟩; refine ⟨_, rfl, ?_⟩; have n0_ := Aside0.mk (Kd.R_below (by (with_reducible repeat (first | apply Kd.R_alloc | apply Kd.R_drewN | apply Kd.R_drew)); exact (Kd.R_mono (Kd.R_far (p := ⟨gb317, 10, none⟩) (Kd.R_far (p := ⟨gb317, 9, none⟩) (Kd.R_far (p := ⟨gb317, 8, none⟩) (Kd.R_far (p := ⟨gb317, 7, none⟩) (Kd.R_far (p := ⟨gb317, 6, none⟩) (Kd.R_far (p := ⟨gb317, 5, none⟩) (Kd.R_far (p := ⟨gb317, 4, none⟩) (Kd.R_far (p := ⟨gb317, 3, none⟩) (Kd.R_far (p := ⟨gb317, 2, none⟩) (Kd.R_far (p := ⟨gb317, 1, none⟩) (Kd.R_far (p := ⟨gb317, 0, none⟩) (Kd.R_types HO300.out BK317.out (by decide)) (fun _ hk => hk.2) (.int .i64 t303)) (fun _ hk => hk.2) (.int .i64 t304)) (fun _ hk => hk.2) (.int .i64 t305)) (fun _ hk => hk.2) (.int .i64 t306)) (fun _ hk => hk.2) (.int .i64 t307)) (fun _ hk => hk.2) (.int .i64 t308)) (fun _ hk => hk.2) (.int .i64 t309)) (fun _ hk => hk.2) (.int .i64 t310)) (fun _ hk => hk.2) (.int .i64 t311)) (fun _ hk => hk.2) (.int .i64 t312)) (fun _ hk => hk.2) (.slice Ao16 t313.length co16)) (fun _ h_ => h_.1))) hb); have n1_ := Aside0.mk (Kd.R_below (by (with_reducible repeat (first | apply Kd.R_alloc | apply Kd.R_drewN | apply Kd.R_drew)); exact (Kd.R_mono (Kd.R_far (p := ⟨gb317, 10, none⟩) (Kd.R_far (p := ⟨gb317, 9, none⟩) (Kd.R_far (p := ⟨gb317, 8, none⟩) (Kd.R_far (p := ⟨gb317, 7, none⟩) (Kd.R_far (p := ⟨gb317, 6, none⟩) (Kd.R_far (p := ⟨gb317, 5, none⟩) (Kd.R_far (p := ⟨gb317, 4, none⟩) (Kd.R_far (p := ⟨gb317, 3, none⟩) (Kd.R_far (p := ⟨gb317, 2, none⟩) (Kd.R_far (p := ⟨gb317, 1, none⟩) (Kd.R_far (p := ⟨gb317, 0, none⟩) (Kd.R_types HO315.out BK317.out (by decide)) (fun _ hk => hk.2) (.int .i64 t303)) (fun _ hk => hk.2) (.int .i64 t304)) (fun _ hk => hk.2) (.int .i64 t305)) (fun _ hk => hk.2) (.int .i64 t306)) (fun _ hk => hk.2) (.int .i64 t307)) (fun _ hk => hk.2) (.int .i64 t308)) (fun _ hk => hk.2) (.int .i64 t309)) (fun _ hk => hk.2) (.int .i64 t310)) (fun _ hk => hk.2) (.int .i64 t311)) (fun _ hk => hk.2) (.int .i64 t312)) (fun _ hk => hk.2) (.slice Ao16 t313.length co16)) (fun _ h_ => h_.1))) hb); have n2_ := Aside0.mk (blk_below (g := gb302) (o := .cells #[.int .i64 t288, .int .i64 t289, .int .i64 t290, .int .i64 t291, .int .i64 t292, .int .i64 t293, .int .i64 t294, .int .i64 t295, .int .i64 t296, .int .i64 t297, .slice Ao11 t298.length co11] 32 (0, 0)) (by (with_reducible repeat (first | refine blk_drewN ?_ _ | refine blk_drew ?_ | refine blk_alloc ?_ _)); refine blk_far ?_ NB302_317.out _; (with_reducible repeat (first | refine blk_drewN ?_ _ | refine blk_drew ?_ | refine blk_alloc ?_ _)); refine blk_far ?_ NB302_317.out _; (with_reducible repeat (first | refine blk_drewN ?_ _ | refine blk_drew ?_ | refine blk_alloc ?_ _)); refine blk_far ?_ NB302_317.out _; (with_reducible repeat (first | refine blk_drewN ?_ _ | refine blk_drew ?_ | refine blk_alloc ?_ _)); refine blk_far ?_ NB302_317.out _; (with_reducible repeat (first | refine blk_drewN ?_ _ | refine blk_drew ?_ | refine blk_alloc ?_ _)); refine blk_far ?_ NB302_317.out _; (with_reducible repeat (first | refine blk_drewN ?_ _ | refine blk_drew ?_ | refine blk_alloc ?_ _)); refine blk_far ?_ NB302_317.out _; (with_reducible repeat (first | refine blk_drewN ?_ _ | refine blk_drew ?_ | refine blk_alloc ?_ _)); refine blk_far ?_ NB302_317.out _; (with_reducible repeat (first | refine blk_drewN ?_ _ | refine blk_drew ?_ | refine blk_alloc ?_ _)); refine blk_far ?_ NB302_317.out _; (with_reducible repeat (first | refine blk_drewN ?_ _ | refine blk_drew ?_ | refine blk_alloc ?_ _)); refine blk_far ?_ NB302_317.out _; (with_reducible repeat (first | refine blk_drewN ?_ _ | refine blk_drew ?_ | refine blk_alloc ?_ _)); refine blk_far ?_ NB302_317.out _; (with_reducible repeat (first | refine blk_drewN ?_ _ | refine blk_drew ?_ | refine blk_alloc ?_ _)); refine blk_far ?_ NB302_317.out _; (with_reducible repeat (first | refine blk_drewN ?_ _ | refine blk_drew ?_ | refine blk_alloc ?_ _)); exact BK302.out) hb); have n3_ := Aside0.mk (blk_below (g := gb317) (o := .cells #[.int .i64 t303, .int .i64 t304, .int .i64 t305, .int .i64 t306, .int .i64 t307, .int .i64 t308, .int .i64 t309, .int .i64 t310, .int .i64 t311, .int .i64 t312, .slice Ao16 t313.length co16] 32 (0, 0)) (by (with_reducible repeat (first | refine blk_drewN ?_ _ | refine blk_drew ?_ | refine blk_alloc ?_ _)); refine blk_put (cs := #[.int .i64 t303, .int .i64 t304, .int .i64 t305, .int .i64 t306, .int .i64 t307, .int .i64 t308, .int .i64 t309, .int .i64 t310, .int .i64 t311, .int .i64 t312, .slice none 0 0]) ?_ 10 _ rfl; (with_reducible repeat (first | refine blk_drewN ?_ _ | refine blk_drew ?_ | refine blk_alloc ?_ _)); refine blk_put (cs := #[.int .i64 t303, .int .i64 t304, .int .i64 t305, .int .i64 t306, .int .i64 t307, .int .i64 t308, .int .i64 t309, .int .i64 t310, .int .i64 t311, .int .i64 0, .slice none 0 0]) ?_ 9 _ rfl; (with_reducible repeat (first | refine blk_drewN ?_ _ | refine blk_drew ?_ | refine blk_alloc ?_ _)); refine blk_put (cs := #[.int .i64 t303, .int .i64 t304, .int .i64 t305, .int .i64 t306, .int .i64 t307, .int .i64 t308, .int .i64 t309, .int .i64 t310, .int .i64 0, .int .i64 0, .slice none 0 0]) ?_ 8 _ rfl; (with_reducible repeat (first | refine blk_drewN ?_ _ | refine blk_drew ?_ | refine blk_alloc ?_ _)); refine blk_put (cs := #[.int .i64 t303, .int .i64 t304, .int .i64 t305, .int .i64 t306, .int .i64 t307, .int .i64 t308, .int .i64 t309, .int .i64 0, .int .i64 0, .int .i64 0, .slice none 0 0]) ?_ 7 _ rfl; (with_reducible repeat (first | refine blk_drewN ?_ _ | refine blk_drew ?_ | refine blk_alloc ?_ _)); refine blk_put (cs := #[.int .i64 t303, .int .i64 t304, .int .i64 t305, .int .i64 t306, .int .i64 t307, .int .i64 t308, .int .i64 0, .int .i64 0, .int .i64 0, .int .i64 0, .slice none 0 0]) ?_ 6 _ rfl; (with_reducible repeat (first | refine blk_drewN ?_ _ | refine blk_drew ?_ | refine blk_alloc ?_ _)); refine blk_put (cs := #[.int .i64 t303, .int .i64 t304, .int .i64 t305, .int .i64 t306, .int .i64 t307, .int .i64 0, .int .i64 0, .int .i64 0, .int .i64 0, .int .i64 0, .slice none 0 0]) ?_ 5 _ rfl; (with_reducible repeat (first | refine blk_drewN ?_ _ | refine blk_drew ?_ | refine blk_alloc ?_ _)); refine blk_put (cs := #[.int .i64 t303, .int .i64 t304, .int .i64 t305, .int .i64 t306, .int .i64 0, .int .i64 0, .int .i64 0, .int .i64 0, .int .i64 0, .int .i64 0, .slice none 0 0]) ?_ 4 _ rfl; (with_reducible repeat (first | refine blk_drewN ?_ _ | refine blk_drew ?_ | refine blk_alloc ?_ _)); refine blk_put (cs := #[.int .i64 t303, .int .i64 t304, .int .i64 t305, .int .i64 0, .int .i64 0, .int .i64 0, .int .i64 0, .int .i64 0, .int .i64 0, .int .i64 0, .slice none 0 0]) ?_ 3 _ rfl; (with_reducible repeat (first | refine blk_drewN ?_ _ | refine blk_drew ?_ | refine blk_alloc ?_ _)); refine blk_put (cs := #[.int .i64 t303, .int .i64 t304, .int .i64 0, .int .i64 0, .int .i64 0, .int .i64 0, .int .i64 0, .int .i64 0, .int .i64 0, .int .i64 0, .slice none 0 0]) ?_ 2 _ rfl; (with_reducible repeat (first | refine blk_drewN ?_ _ | refine blk_drew ?_ | refine blk_alloc ?_ _)); refine blk_put (cs := #[.int .i64 t303, .int .i64 0, .int .i64 0, .int .i64 0, .int .i64 0, .int .i64 0, .int .i64 0, .int .i64 0, .int .i64 0, .int .i64 0, .slice none 0 0]) ?_ 1 _ rfl; (with_reducible repeat (first | refine blk_drewN ?_ _ | refine blk_drew ?_ | refine blk_alloc ?_ _)); refine blk_put (cs := #[.int .i64 0, .int .i64 0, .int .i64 0, .int .i64 0, .int .i64 0, .int .i64 0, .int .i64 0, .int .i64 0, .int .i64 0, .int .i64 0, .slice none 0 0]) ?_ 0 _ rfl; (with_reducible repeat (first | refine blk_drewN ?_ _ | refine blk_drew ?_ | refine blk_alloc ?_ _)); exact BK317.out) hb); have n4_ := Aside0.mk (below_step (by repeat (first | (with_reducible first | exact HB.out | apply below_alloc | apply pw_below_drewN | apply below_drew1 | refine below_set ?_ GE302.out | refine below_set ?_ GE317.out) | exact HB.out)) hb); clear HO300; clear HO315; clear BK302; clear BK317; clear HB; have HO300 := n0_; have HO315 := n1_; have BK302 := n2_; have BK317 := n3_; have HB := n4_; clear n0_ n1_ n2_ n3_ n4_; (try clear hb); (try clear hb2); (try clear hk); (try clear hi)))
    go_meet
    case rel => exact ⟨_, (true), (by first | rfl | (simp; done) | (simp [*]; done)), H', ⟨by first | omega | exact Nat.le_refl _⟩, ⟨by (with_reducible repeat (first | apply Kd.R_alloc | apply Kd.R_drewN | apply Kd.R_drew)); exact Kd.R_mono HO300.out (fun _ hk => hk.2)⟩, ⟨by (with_reducible repeat (first | apply Kd.R_alloc | apply Kd.R_drewN | apply Kd.R_drew)); exact Kd.R_mono HO315.out (fun _ hk => hk.2)⟩, ⟨by (with_reducible repeat (first | refine blk_drewN ?_ _ | refine blk_drew ?_ | refine blk_alloc ?_ _)); exact BK302.out⟩, ⟨by (with_reducible repeat (first | refine blk_drewN ?_ _ | refine blk_drew ?_ | refine blk_alloc ?_ _)); exact BK317.out⟩, ⟨by repeat (first | (with_reducible first | exact HB.out | apply below_alloc | apply pw_below_drewN | apply below_drew1 | refine below_set ?_ GE302.out | refine below_set ?_ GE317.out) | exact HB.out)⟩⟩
  case rest =>
   clear HC7
   try clear c1
   try clear c2
   try clear c2b0
   try clear c2b1
   try clear p2
   try clear c8
   try clear c14
   try clear c18
   try clear c19
   try clear c22
   try clear c23
   try clear c24
   try clear c25
   try clear hcz10_0
   try clear hcz10_1
   try clear hcz10_10
   try clear hcz10_2
   try clear hcz10_3
   try clear hcz10_4
   try clear hcz10_5
   try clear hcz10_6
   try clear hcz10_7
   try clear hcz10_8
   try clear hcz10_9
   try clear hcz15_0
   try clear hcz15_1
   try clear hcz15_10
   try clear hcz15_2
   try clear hcz15_3
   try clear hcz15_4
   try clear hcz15_5
   try clear hcz15_6
   try clear hcz15_7
   try clear hcz15_8
   try clear hcz15_9
   try clear hcz20_0
   try clear hcz20_1
   try clear hcz20_10
   try clear hcz20_2
   try clear hcz20_3
   try clear hcz20_4
   try clear hcz20_5
   try clear hcz20_6
   try clear hcz20_7
   try clear hcz20_8
   try clear hcz20_9
   try clear hcz21_0
   try clear hcz21_1
   try clear hcz21_10
   try clear hcz21_2
   try clear hcz21_3
   try clear hcz21_4
   try clear hcz21_5
   try clear hcz21_6
   try clear hcz21_7
   try clear hcz21_8
   try clear hcz21_9
   try clear hcz24_0
   try clear hcz24_1
   try clear hcz24_10
   try clear hcz24_2
   try clear hcz24_3
   try clear hcz24_4
   try clear hcz24_5
   try clear hcz24_6
   try clear hcz24_7
   try clear hcz24_8
   try clear hcz24_9
   try clear hcz25_0
   try clear hcz25_1
   try clear hcz25_10
   try clear hcz25_2
   try clear hcz25_3
   try clear hcz25_4
   try clear hcz25_5
   try clear hcz25_6
   try clear hcz25_7
   try clear hcz25_8
   try clear hcz25_9
   try clear hfz10_0
   try clear hfz10_1
   try clear hfz10_10
   try clear hfz10_2
   try clear hfz10_3
   try clear hfz10_4
   try clear hfz10_5
   try clear hfz10_6
   try clear hfz10_7
   try clear hfz10_8
   try clear hfz10_9
   try clear hfz15_0
   try clear hfz15_1
   try clear hfz15_10
   try clear hfz15_2
   try clear hfz15_3
   try clear hfz15_4
   try clear hfz15_5
   try clear hfz15_6
   try clear hfz15_7
   try clear hfz15_8
   try clear hfz15_9
   try clear hfz20_0
   try clear hfz20_1
   try clear hfz20_10
   try clear hfz20_2
   try clear hfz20_3
   try clear hfz20_4
   try clear hfz20_5
   try clear hfz20_6
   try clear hfz20_7
   try clear hfz20_8
   try clear hfz20_9
   try clear hfz21_0
   try clear hfz21_1
   try clear hfz21_10
   try clear hfz21_2
   try clear hfz21_3
   try clear hfz21_4
   try clear hfz21_5
   try clear hfz21_6
   try clear hfz21_7
   try clear hfz21_8
   try clear hfz21_9
   try clear hfz24_0
   try clear hfz24_1
   try clear hfz24_10
   try clear hfz24_2
   try clear hfz24_3
   try clear hfz24_4
   try clear hfz24_5
   try clear hfz24_6
   try clear hfz24_7
   try clear hfz24_8
   try clear hfz24_9
   try clear hfz25_0
   try clear hfz25_1
   try clear hfz25_10
   try clear hfz25_2
   try clear hfz25_3
   try clear hfz25_4
   try clear hfz25_5
   try clear hfz25_6
   try clear hfz25_7
   try clear hfz25_8
   try clear hfz25_9
   obtain ⟨kq, x31_6, rfl, HA, HJ6, HO_303010, HO_318010, BK302, BK317, HB⟩ := hcut
   cases kq with
   | zero => exact absurd HA.out (by simp [switchboardlaw07_WireTakes.j0])
   | succ kj6 =>
    have H := HA.out
    clear HA
    simp only [switchboardlaw07_WireTakes.j0] at H
    by_cases c27 : x31_6 = true
    ·subst c27
     have H1 : (some false) = some r := by rw [if_pos rfl] at H; exact H
     clear H
     have H := H1
     clear H1
     obtain rfl := Option.some.inj H
     go_wp2
     go_ret
     exact ⟨by first | rfl | (simp [errW_none, errW_some] <;> rfl) | (simp [*, errW_none, errW_some] <;> rfl), by repeat (first | (with_reducible first | exact HB.out | apply below_alloc | apply pw_below_drewN | apply below_drew1 | refine below_set ?_ GE302.out | refine below_set ?_ GE317.out) | exact HB.out)⟩
    ·replace c27 := Bool.eq_false_iff.mpr c27
     subst c27
     have H1 : ((wire_Put.f kj6 t288 t289 t290 t291 t292 t293 t294 t295 t296 t297 t298).bind fun bt319 => (if t301 = 0 then (if bt319.1.toList = a0.toList then (if bt319.2 = 0 then ((switchboardlaw07_awake.f kj6).bind fun t321 => (some t321)) else (some false)) else (some false)) else ((switchboardlaw07_awake.f kj6).bind fun t322 => (some t322)))) = some r := by rw [if_neg (show ¬ (false = true) by decide)] at H; exact H
     clear H
     have H := H1
     clear H1
     replace H := Option.bind_eq_some_iff.mp H
     obtain ⟨⟨t319, t320⟩, A280, H⟩ := H
     replace H : (if t301 = 0 then (if t319.toList = a0.toList then (if t320 = 0 then ((switchboardlaw07_awake.f kj6).bind fun t321 => (some t321)) else (some false)) else (some false)) else ((switchboardlaw07_awake.f kj6).bind fun t322 => (some t322))) = some r := H
     have A28 := Aside0.mk A280
     clear A280
     by_cases c29 : t301 = 0
     ·rw [if_pos c29] at H
      have c29b0 : (t301 == 0) = true := beq_iff_eq.mpr c29
      have c29b1 : (t301 != 0) = false := bne_eq_false_iff_eq.mpr c29
      clear c29
      by_cases c30 : t319.toList = a0.toList
      ·rw [if_pos c30] at H
       have c30b0 : (t319.toList == a0.toList) = true := beq_iff_eq.mpr c30
       have c30b1 : (t319.toList != a0.toList) = false := bne_eq_false_iff_eq.mpr c30
       clear c30
       by_cases c31 : t320 = 0
       ·rw [if_pos c31] at H
        have c31b0 : (t320 == 0) = true := beq_iff_eq.mpr c31
        have c31b1 : (t320 != 0) = false := bne_eq_false_iff_eq.mpr c31
        clear c31
        replace H := Option.bind_eq_some_iff.mp H
        obtain ⟨t321, A320, H⟩ := H
        replace H : (some t321) = some r := H
        have A32 := Aside0.mk A320
        clear A320
        obtain rfl := Option.some.inj H
        have hnb33 := NB302_317.out
        have hnc33 := NB317_302.out
        have hcz34_0 : wc.cell? ⟨gb302, 0, none⟩ = some (.int .i64 t288) := (blk_cell BK302.out 0).trans rfl
        have hcz34_1 : wc.cell? ⟨gb302, 1, none⟩ = some (.int .i64 t289) := (blk_cell BK302.out 1).trans rfl
        have hcz34_2 : wc.cell? ⟨gb302, 2, none⟩ = some (.int .i64 t290) := (blk_cell BK302.out 2).trans rfl
        have hcz34_3 : wc.cell? ⟨gb302, 3, none⟩ = some (.int .i64 t291) := (blk_cell BK302.out 3).trans rfl
        have hcz34_4 : wc.cell? ⟨gb302, 4, none⟩ = some (.int .i64 t292) := (blk_cell BK302.out 4).trans rfl
        have hcz34_5 : wc.cell? ⟨gb302, 5, none⟩ = some (.int .i64 t293) := (blk_cell BK302.out 5).trans rfl
        have hcz34_6 : wc.cell? ⟨gb302, 6, none⟩ = some (.int .i64 t294) := (blk_cell BK302.out 6).trans rfl
        have hcz34_7 : wc.cell? ⟨gb302, 7, none⟩ = some (.int .i64 t295) := (blk_cell BK302.out 7).trans rfl
        have hcz34_8 : wc.cell? ⟨gb302, 8, none⟩ = some (.int .i64 t296) := (blk_cell BK302.out 8).trans rfl
        have hcz34_9 : wc.cell? ⟨gb302, 9, none⟩ = some (.int .i64 t297) := (blk_cell BK302.out 9).trans rfl
        have hcz34_10 : wc.cell? ⟨gb302, 10, none⟩ = some (.slice Ao11 t298.length co11) := (blk_cell BK302.out 10).trans rfl
        have hfz34_0 := blk_frozen BK302.out 0
        have hfz34_1 := blk_frozen BK302.out 1
        have hfz34_2 := blk_frozen BK302.out 2
        have hfz34_3 := blk_frozen BK302.out 3
        have hfz34_4 := blk_frozen BK302.out 4
        have hfz34_5 := blk_frozen BK302.out 5
        have hfz34_6 := blk_frozen BK302.out 6
        have hfz34_7 := blk_frozen BK302.out 7
        have hfz34_8 := blk_frozen BK302.out 8
        have hfz34_9 := blk_frozen BK302.out 9
        have hfz34_10 := blk_frozen BK302.out 10
        go_wp2_with (first | ((with_reducible refine gate_callee (f := 19) rfl ?_); refine goesL_ (some 34) rfl rfl Try.func19 (by kernel_rfl) rfl #[.agg #[.int .i64 t288, .int .i64 t289, .int .i64 t290, .int .i64 t291, .int .i64 t292, .int .i64 t293, .int .i64 t294, .int .i64 t295, .int .i64 t296, .int .i64 t297, .slice Ao11 t298.length co11]] rfl (by (try simp only [List.map_toArray, List.map_cons, List.map_nil]); first | done | rfl | (simp only [ByteArray.size_append, Int.natCast_add, List.length_drop, List.length_take]; first | done | rfl) | (simp only [List.length_drop, List.length_take]; rfl)) ?_; (with_reducible refine (wire_Put.calls kj6 t288 t289 t290 t291 t292 t293 t294 t295 t296 t297 _ _ t298 t319 t320 _ ?side1 ?side2 A28.out).mono ?_); (case side1 => repeat (first | exact (Kd.R_reads' HO_303010.out).2.2 | (with_reducible refine Kd.C_alloc ?_ _) | (with_reducible refine Kd.C_drewN ?_ _) | (with_reducible refine Kd.C_drew ?_))); (case side2 => exact (Kd.R_reads' HO_303010.out).2.1); rintro e w35 ⟨rfl, hb⟩; refine ⟨_, rfl, ?_⟩; have n0_ := Aside0.mk (Kd.R_below (by (with_reducible repeat (first | apply Kd.R_alloc | apply Kd.R_drewN | apply Kd.R_drew)); exact HO_303010.out) hb); have n1_ := Aside0.mk (Kd.R_below (by (with_reducible repeat (first | apply Kd.R_alloc | apply Kd.R_drewN | apply Kd.R_drew)); exact HO_318010.out) hb); have n2_ := Aside0.mk (blk_below (g := gb302) (o := .cells #[.int .i64 t288, .int .i64 t289, .int .i64 t290, .int .i64 t291, .int .i64 t292, .int .i64 t293, .int .i64 t294, .int .i64 t295, .int .i64 t296, .int .i64 t297, .slice Ao11 t298.length co11] 32 (0, 0)) (by (with_reducible repeat (first | refine blk_drewN ?_ _ | refine blk_drew ?_ | refine blk_alloc ?_ _)); exact BK302.out) hb); have n3_ := Aside0.mk (blk_below (g := gb317) (o := .cells #[.int .i64 t303, .int .i64 t304, .int .i64 t305, .int .i64 t306, .int .i64 t307, .int .i64 t308, .int .i64 t309, .int .i64 t310, .int .i64 t311, .int .i64 t312, .slice Ao16 t313.length co16] 32 (0, 0)) (by (with_reducible repeat (first | refine blk_drewN ?_ _ | refine blk_drew ?_ | refine blk_alloc ?_ _)); exact BK317.out) hb); have n4_ := Aside0.mk (below_step (by repeat (first | (with_reducible first | exact HB.out | apply below_alloc | apply pw_below_drewN | apply below_drew1 | refine below_set ?_ GE302.out | refine below_set ?_ GE317.out) | exact HB.out)) hb); clear HO_303010; clear HO_318010; clear BK302; clear BK317; clear HB; have HO_303010 := n0_; have HO_318010 := n1_; have BK302 := n2_; have BK317 := n3_; have HB := n4_; clear n0_ n1_ n2_ n3_ n4_; (try clear hb); (try clear hb2); (try clear hk); (try clear hi)) | (go_at_call 18; (with_reducible refine (switchboardlaw07_awake.calls kj6  t321 _ A32.out).mono ?_); rintro e w36 ⟨rfl, hb⟩; have n0_ := Aside0.mk (Kd.R_below (by (with_reducible repeat (first | apply Kd.R_alloc | apply Kd.R_drewN | apply Kd.R_drew)); exact HO_303010.out) hb); have n1_ := Aside0.mk (Kd.R_below (by (with_reducible repeat (first | apply Kd.R_alloc | apply Kd.R_drewN | apply Kd.R_drew)); exact HO_318010.out) hb); have n2_ := Aside0.mk (blk_below (g := gb302) (o := .cells #[.int .i64 t288, .int .i64 t289, .int .i64 t290, .int .i64 t291, .int .i64 t292, .int .i64 t293, .int .i64 t294, .int .i64 t295, .int .i64 t296, .int .i64 t297, .slice Ao11 t298.length co11] 32 (0, 0)) (by (with_reducible repeat (first | refine blk_drewN ?_ _ | refine blk_drew ?_ | refine blk_alloc ?_ _)); exact BK302.out) hb); have n3_ := Aside0.mk (blk_below (g := gb317) (o := .cells #[.int .i64 t303, .int .i64 t304, .int .i64 t305, .int .i64 t306, .int .i64 t307, .int .i64 t308, .int .i64 t309, .int .i64 t310, .int .i64 t311, .int .i64 t312, .slice Ao16 t313.length co16] 32 (0, 0)) (by (with_reducible repeat (first | refine blk_drewN ?_ _ | refine blk_drew ?_ | refine blk_alloc ?_ _)); exact BK317.out) hb); have n4_ := Aside0.mk (below_step (by repeat (first | (with_reducible first | exact HB.out | apply below_alloc | apply pw_below_drewN | apply below_drew1 | refine below_set ?_ GE302.out | refine below_set ?_ GE317.out) | exact HB.out)) hb); clear HO_303010; clear HO_318010; clear BK302; clear BK317; clear HB; have HO_303010 := n0_; have HO_318010 := n1_; have BK302 := n2_; have BK317 := n3_; have HB := n4_; clear n0_ n1_ n2_ n3_ n4_; (try clear hb); (try clear hb2); (try clear hk); (try clear hi)))
        go_ret
        exact ⟨by first | rfl | (simp [errW_none, errW_some] <;> rfl) | (simp [*, errW_none, errW_some] <;> rfl), by repeat (first | (with_reducible first | exact HB.out | apply below_alloc | apply pw_below_drewN | apply below_drew1 | refine below_set ?_ GE302.out | refine below_set ?_ GE317.out) | exact HB.out)⟩
       ·rw [if_neg c31] at H
        have c31b0 : (t320 == 0) = false := beq_eq_false_iff_ne.mpr c31
        have c31b1 : (t320 != 0) = true := bne_iff_ne.mpr c31
        obtain rfl := Option.some.inj H
        have hnb37 := NB302_317.out
        have hnc37 := NB317_302.out
        have hcz38_0 : wc.cell? ⟨gb302, 0, none⟩ = some (.int .i64 t288) := (blk_cell BK302.out 0).trans rfl
        have hcz38_1 : wc.cell? ⟨gb302, 1, none⟩ = some (.int .i64 t289) := (blk_cell BK302.out 1).trans rfl
        have hcz38_2 : wc.cell? ⟨gb302, 2, none⟩ = some (.int .i64 t290) := (blk_cell BK302.out 2).trans rfl
        have hcz38_3 : wc.cell? ⟨gb302, 3, none⟩ = some (.int .i64 t291) := (blk_cell BK302.out 3).trans rfl
        have hcz38_4 : wc.cell? ⟨gb302, 4, none⟩ = some (.int .i64 t292) := (blk_cell BK302.out 4).trans rfl
        have hcz38_5 : wc.cell? ⟨gb302, 5, none⟩ = some (.int .i64 t293) := (blk_cell BK302.out 5).trans rfl
        have hcz38_6 : wc.cell? ⟨gb302, 6, none⟩ = some (.int .i64 t294) := (blk_cell BK302.out 6).trans rfl
        have hcz38_7 : wc.cell? ⟨gb302, 7, none⟩ = some (.int .i64 t295) := (blk_cell BK302.out 7).trans rfl
        have hcz38_8 : wc.cell? ⟨gb302, 8, none⟩ = some (.int .i64 t296) := (blk_cell BK302.out 8).trans rfl
        have hcz38_9 : wc.cell? ⟨gb302, 9, none⟩ = some (.int .i64 t297) := (blk_cell BK302.out 9).trans rfl
        have hcz38_10 : wc.cell? ⟨gb302, 10, none⟩ = some (.slice Ao11 t298.length co11) := (blk_cell BK302.out 10).trans rfl
        have hfz38_0 := blk_frozen BK302.out 0
        have hfz38_1 := blk_frozen BK302.out 1
        have hfz38_2 := blk_frozen BK302.out 2
        have hfz38_3 := blk_frozen BK302.out 3
        have hfz38_4 := blk_frozen BK302.out 4
        have hfz38_5 := blk_frozen BK302.out 5
        have hfz38_6 := blk_frozen BK302.out 6
        have hfz38_7 := blk_frozen BK302.out 7
        have hfz38_8 := blk_frozen BK302.out 8
        have hfz38_9 := blk_frozen BK302.out 9
        have hfz38_10 := blk_frozen BK302.out 10
        go_wp2_with (first | ((with_reducible refine gate_callee (f := 19) rfl ?_); refine goesL_ (some 34) rfl rfl Try.func19 (by kernel_rfl) rfl #[.agg #[.int .i64 t288, .int .i64 t289, .int .i64 t290, .int .i64 t291, .int .i64 t292, .int .i64 t293, .int .i64 t294, .int .i64 t295, .int .i64 t296, .int .i64 t297, .slice Ao11 t298.length co11]] rfl (by (try simp only [List.map_toArray, List.map_cons, List.map_nil]); first | done | rfl | (simp only [ByteArray.size_append, Int.natCast_add, List.length_drop, List.length_take]; first | done | rfl) | (simp only [List.length_drop, List.length_take]; rfl)) ?_; (with_reducible refine (wire_Put.calls kj6 t288 t289 t290 t291 t292 t293 t294 t295 t296 t297 _ _ t298 t319 t320 _ ?side1 ?side2 A28.out).mono ?_); (case side1 => repeat (first | exact (Kd.R_reads' HO_303010.out).2.2 | (with_reducible refine Kd.C_alloc ?_ _) | (with_reducible refine Kd.C_drewN ?_ _) | (with_reducible refine Kd.C_drew ?_))); (case side2 => exact (Kd.R_reads' HO_303010.out).2.1); rintro e w39 ⟨rfl, hb⟩; refine ⟨_, rfl, ?_⟩; have n0_ := Aside0.mk (Kd.R_below (by (with_reducible repeat (first | apply Kd.R_alloc | apply Kd.R_drewN | apply Kd.R_drew)); exact HO_303010.out) hb); have n1_ := Aside0.mk (Kd.R_below (by (with_reducible repeat (first | apply Kd.R_alloc | apply Kd.R_drewN | apply Kd.R_drew)); exact HO_318010.out) hb); have n2_ := Aside0.mk (blk_below (g := gb302) (o := .cells #[.int .i64 t288, .int .i64 t289, .int .i64 t290, .int .i64 t291, .int .i64 t292, .int .i64 t293, .int .i64 t294, .int .i64 t295, .int .i64 t296, .int .i64 t297, .slice Ao11 t298.length co11] 32 (0, 0)) (by (with_reducible repeat (first | refine blk_drewN ?_ _ | refine blk_drew ?_ | refine blk_alloc ?_ _)); exact BK302.out) hb); have n3_ := Aside0.mk (blk_below (g := gb317) (o := .cells #[.int .i64 t303, .int .i64 t304, .int .i64 t305, .int .i64 t306, .int .i64 t307, .int .i64 t308, .int .i64 t309, .int .i64 t310, .int .i64 t311, .int .i64 t312, .slice Ao16 t313.length co16] 32 (0, 0)) (by (with_reducible repeat (first | refine blk_drewN ?_ _ | refine blk_drew ?_ | refine blk_alloc ?_ _)); exact BK317.out) hb); have n4_ := Aside0.mk (below_step (by repeat (first | (with_reducible first | exact HB.out | apply below_alloc | apply pw_below_drewN | apply below_drew1 | refine below_set ?_ GE302.out | refine below_set ?_ GE317.out) | exact HB.out)) hb); clear HO_303010; clear HO_318010; clear BK302; clear BK317; clear HB; have HO_303010 := n0_; have HO_318010 := n1_; have BK302 := n2_; have BK317 := n3_; have HB := n4_; clear n0_ n1_ n2_ n3_ n4_; (try clear hb); (try clear hb2); (try clear hk); (try clear hi)))
        go_ret
        exact ⟨by first | rfl | (simp [errW_none, errW_some] <;> rfl) | (simp [*, errW_none, errW_some] <;> rfl), by repeat (first | (with_reducible first | exact HB.out | apply below_alloc | apply pw_below_drewN | apply below_drew1 | refine below_set ?_ GE302.out | refine below_set ?_ GE317.out) | exact HB.out)⟩
      ·rw [if_neg c30] at H
       have c30b0 : (t319.toList == a0.toList) = false := beq_eq_false_iff_ne.mpr c30
       have c30b1 : (t319.toList != a0.toList) = true := bne_iff_ne.mpr c30
       obtain rfl := Option.some.inj H
       have hnb40 := NB302_317.out
       have hnc40 := NB317_302.out
       have hcz41_0 : wc.cell? ⟨gb302, 0, none⟩ = some (.int .i64 t288) := (blk_cell BK302.out 0).trans rfl
       have hcz41_1 : wc.cell? ⟨gb302, 1, none⟩ = some (.int .i64 t289) := (blk_cell BK302.out 1).trans rfl
       have hcz41_2 : wc.cell? ⟨gb302, 2, none⟩ = some (.int .i64 t290) := (blk_cell BK302.out 2).trans rfl
       have hcz41_3 : wc.cell? ⟨gb302, 3, none⟩ = some (.int .i64 t291) := (blk_cell BK302.out 3).trans rfl
       have hcz41_4 : wc.cell? ⟨gb302, 4, none⟩ = some (.int .i64 t292) := (blk_cell BK302.out 4).trans rfl
       have hcz41_5 : wc.cell? ⟨gb302, 5, none⟩ = some (.int .i64 t293) := (blk_cell BK302.out 5).trans rfl
       have hcz41_6 : wc.cell? ⟨gb302, 6, none⟩ = some (.int .i64 t294) := (blk_cell BK302.out 6).trans rfl
       have hcz41_7 : wc.cell? ⟨gb302, 7, none⟩ = some (.int .i64 t295) := (blk_cell BK302.out 7).trans rfl
       have hcz41_8 : wc.cell? ⟨gb302, 8, none⟩ = some (.int .i64 t296) := (blk_cell BK302.out 8).trans rfl
       have hcz41_9 : wc.cell? ⟨gb302, 9, none⟩ = some (.int .i64 t297) := (blk_cell BK302.out 9).trans rfl
       have hcz41_10 : wc.cell? ⟨gb302, 10, none⟩ = some (.slice Ao11 t298.length co11) := (blk_cell BK302.out 10).trans rfl
       have hfz41_0 := blk_frozen BK302.out 0
       have hfz41_1 := blk_frozen BK302.out 1
       have hfz41_2 := blk_frozen BK302.out 2
       have hfz41_3 := blk_frozen BK302.out 3
       have hfz41_4 := blk_frozen BK302.out 4
       have hfz41_5 := blk_frozen BK302.out 5
       have hfz41_6 := blk_frozen BK302.out 6
       have hfz41_7 := blk_frozen BK302.out 7
       have hfz41_8 := blk_frozen BK302.out 8
       have hfz41_9 := blk_frozen BK302.out 9
       have hfz41_10 := blk_frozen BK302.out 10
       go_wp2_with (first | ((with_reducible refine gate_callee (f := 19) rfl ?_); refine goesL_ (some 34) rfl rfl Try.func19 (by kernel_rfl) rfl #[.agg #[.int .i64 t288, .int .i64 t289, .int .i64 t290, .int .i64 t291, .int .i64 t292, .int .i64 t293, .int .i64 t294, .int .i64 t295, .int .i64 t296, .int .i64 t297, .slice Ao11 t298.length co11]] rfl (by (try simp only [List.map_toArray, List.map_cons, List.map_nil]); first | done | rfl | (simp only [ByteArray.size_append, Int.natCast_add, List.length_drop, List.length_take]; first | done | rfl) | (simp only [List.length_drop, List.length_take]; rfl)) ?_; (with_reducible refine (wire_Put.calls kj6 t288 t289 t290 t291 t292 t293 t294 t295 t296 t297 _ _ t298 t319 t320 _ ?side1 ?side2 A28.out).mono ?_); (case side1 => repeat (first | exact (Kd.R_reads' HO_303010.out).2.2 | (with_reducible refine Kd.C_alloc ?_ _) | (with_reducible refine Kd.C_drewN ?_ _) | (with_reducible refine Kd.C_drew ?_))); (case side2 => exact (Kd.R_reads' HO_303010.out).2.1); rintro e w42 ⟨rfl, hb⟩; refine ⟨_, rfl, ?_⟩; have n0_ := Aside0.mk (Kd.R_below (by (with_reducible repeat (first | apply Kd.R_alloc | apply Kd.R_drewN | apply Kd.R_drew)); exact HO_303010.out) hb); have n1_ := Aside0.mk (Kd.R_below (by (with_reducible repeat (first | apply Kd.R_alloc | apply Kd.R_drewN | apply Kd.R_drew)); exact HO_318010.out) hb); have n2_ := Aside0.mk (blk_below (g := gb302) (o := .cells #[.int .i64 t288, .int .i64 t289, .int .i64 t290, .int .i64 t291, .int .i64 t292, .int .i64 t293, .int .i64 t294, .int .i64 t295, .int .i64 t296, .int .i64 t297, .slice Ao11 t298.length co11] 32 (0, 0)) (by (with_reducible repeat (first | refine blk_drewN ?_ _ | refine blk_drew ?_ | refine blk_alloc ?_ _)); exact BK302.out) hb); have n3_ := Aside0.mk (blk_below (g := gb317) (o := .cells #[.int .i64 t303, .int .i64 t304, .int .i64 t305, .int .i64 t306, .int .i64 t307, .int .i64 t308, .int .i64 t309, .int .i64 t310, .int .i64 t311, .int .i64 t312, .slice Ao16 t313.length co16] 32 (0, 0)) (by (with_reducible repeat (first | refine blk_drewN ?_ _ | refine blk_drew ?_ | refine blk_alloc ?_ _)); exact BK317.out) hb); have n4_ := Aside0.mk (below_step (by repeat (first | (with_reducible first | exact HB.out | apply below_alloc | apply pw_below_drewN | apply below_drew1 | refine below_set ?_ GE302.out | refine below_set ?_ GE317.out) | exact HB.out)) hb); clear HO_303010; clear HO_318010; clear BK302; clear BK317; clear HB; have HO_303010 := n0_; have HO_318010 := n1_; have BK302 := n2_; have BK317 := n3_; have HB := n4_; clear n0_ n1_ n2_ n3_ n4_; (try clear hb); (try clear hb2); (try clear hk); (try clear hi)))
       go_ret
       exact ⟨by first | rfl | (simp [errW_none, errW_some] <;> rfl) | (simp [*, errW_none, errW_some] <;> rfl), by repeat (first | (with_reducible first | exact HB.out | apply below_alloc | apply pw_below_drewN | apply below_drew1 | refine below_set ?_ GE302.out | refine below_set ?_ GE317.out) | exact HB.out)⟩
     ·rw [if_neg c29] at H
      have c29b0 : (t301 == 0) = false := beq_eq_false_iff_ne.mpr c29
      have c29b1 : (t301 != 0) = true := bne_iff_ne.mpr c29
      replace H := Option.bind_eq_some_iff.mp H
      obtain ⟨t322, A430, H⟩ := H
      replace H : (some t322) = some r := H
      have A43 := Aside0.mk A430
      clear A430
      obtain rfl := Option.some.inj H
      have hnb44 := NB302_317.out
      have hnc44 := NB317_302.out
      have hcz45_0 : wc.cell? ⟨gb302, 0, none⟩ = some (.int .i64 t288) := (blk_cell BK302.out 0).trans rfl
      have hcz45_1 : wc.cell? ⟨gb302, 1, none⟩ = some (.int .i64 t289) := (blk_cell BK302.out 1).trans rfl
      have hcz45_2 : wc.cell? ⟨gb302, 2, none⟩ = some (.int .i64 t290) := (blk_cell BK302.out 2).trans rfl
      have hcz45_3 : wc.cell? ⟨gb302, 3, none⟩ = some (.int .i64 t291) := (blk_cell BK302.out 3).trans rfl
      have hcz45_4 : wc.cell? ⟨gb302, 4, none⟩ = some (.int .i64 t292) := (blk_cell BK302.out 4).trans rfl
      have hcz45_5 : wc.cell? ⟨gb302, 5, none⟩ = some (.int .i64 t293) := (blk_cell BK302.out 5).trans rfl
      have hcz45_6 : wc.cell? ⟨gb302, 6, none⟩ = some (.int .i64 t294) := (blk_cell BK302.out 6).trans rfl
      have hcz45_7 : wc.cell? ⟨gb302, 7, none⟩ = some (.int .i64 t295) := (blk_cell BK302.out 7).trans rfl
      have hcz45_8 : wc.cell? ⟨gb302, 8, none⟩ = some (.int .i64 t296) := (blk_cell BK302.out 8).trans rfl
      have hcz45_9 : wc.cell? ⟨gb302, 9, none⟩ = some (.int .i64 t297) := (blk_cell BK302.out 9).trans rfl
      have hcz45_10 : wc.cell? ⟨gb302, 10, none⟩ = some (.slice Ao11 t298.length co11) := (blk_cell BK302.out 10).trans rfl
      have hfz45_0 := blk_frozen BK302.out 0
      have hfz45_1 := blk_frozen BK302.out 1
      have hfz45_2 := blk_frozen BK302.out 2
      have hfz45_3 := blk_frozen BK302.out 3
      have hfz45_4 := blk_frozen BK302.out 4
      have hfz45_5 := blk_frozen BK302.out 5
      have hfz45_6 := blk_frozen BK302.out 6
      have hfz45_7 := blk_frozen BK302.out 7
      have hfz45_8 := blk_frozen BK302.out 8
      have hfz45_9 := blk_frozen BK302.out 9
      have hfz45_10 := blk_frozen BK302.out 10
      go_wp2_with (first | ((with_reducible refine gate_callee (f := 19) rfl ?_); refine goesL_ (some 34) rfl rfl Try.func19 (by kernel_rfl) rfl #[.agg #[.int .i64 t288, .int .i64 t289, .int .i64 t290, .int .i64 t291, .int .i64 t292, .int .i64 t293, .int .i64 t294, .int .i64 t295, .int .i64 t296, .int .i64 t297, .slice Ao11 t298.length co11]] rfl (by (try simp only [List.map_toArray, List.map_cons, List.map_nil]); first | done | rfl | (simp only [ByteArray.size_append, Int.natCast_add, List.length_drop, List.length_take]; first | done | rfl) | (simp only [List.length_drop, List.length_take]; rfl)) ?_; (with_reducible refine (wire_Put.calls kj6 t288 t289 t290 t291 t292 t293 t294 t295 t296 t297 _ _ t298 t319 t320 _ ?side1 ?side2 A28.out).mono ?_); (case side1 => repeat (first | exact (Kd.R_reads' HO_303010.out).2.2 | (with_reducible refine Kd.C_alloc ?_ _) | (with_reducible refine Kd.C_drewN ?_ _) | (with_reducible refine Kd.C_drew ?_))); (case side2 => exact (Kd.R_reads' HO_303010.out).2.1); rintro e w46 ⟨rfl, hb⟩; refine ⟨_, rfl, ?_⟩; have n0_ := Aside0.mk (Kd.R_below (by (with_reducible repeat (first | apply Kd.R_alloc | apply Kd.R_drewN | apply Kd.R_drew)); exact HO_303010.out) hb); have n1_ := Aside0.mk (Kd.R_below (by (with_reducible repeat (first | apply Kd.R_alloc | apply Kd.R_drewN | apply Kd.R_drew)); exact HO_318010.out) hb); have n2_ := Aside0.mk (blk_below (g := gb302) (o := .cells #[.int .i64 t288, .int .i64 t289, .int .i64 t290, .int .i64 t291, .int .i64 t292, .int .i64 t293, .int .i64 t294, .int .i64 t295, .int .i64 t296, .int .i64 t297, .slice Ao11 t298.length co11] 32 (0, 0)) (by (with_reducible repeat (first | refine blk_drewN ?_ _ | refine blk_drew ?_ | refine blk_alloc ?_ _)); exact BK302.out) hb); have n3_ := Aside0.mk (blk_below (g := gb317) (o := .cells #[.int .i64 t303, .int .i64 t304, .int .i64 t305, .int .i64 t306, .int .i64 t307, .int .i64 t308, .int .i64 t309, .int .i64 t310, .int .i64 t311, .int .i64 t312, .slice Ao16 t313.length co16] 32 (0, 0)) (by (with_reducible repeat (first | refine blk_drewN ?_ _ | refine blk_drew ?_ | refine blk_alloc ?_ _)); exact BK317.out) hb); have n4_ := Aside0.mk (below_step (by repeat (first | (with_reducible first | exact HB.out | apply below_alloc | apply pw_below_drewN | apply below_drew1 | refine below_set ?_ GE302.out | refine below_set ?_ GE317.out) | exact HB.out)) hb); clear HO_303010; clear HO_318010; clear BK302; clear BK317; clear HB; have HO_303010 := n0_; have HO_318010 := n1_; have BK302 := n2_; have BK317 := n3_; have HB := n4_; clear n0_ n1_ n2_ n3_ n4_; (try clear hb); (try clear hb2); (try clear hk); (try clear hi)) | (go_at_call 18; (with_reducible refine (switchboardlaw07_awake.calls kj6  t322 _ A43.out).mono ?_); rintro e w47 ⟨rfl, hb⟩; have n0_ := Aside0.mk (Kd.R_below (by (with_reducible repeat (first | apply Kd.R_alloc | apply Kd.R_drewN | apply Kd.R_drew)); exact HO_303010.out) hb); have n1_ := Aside0.mk (Kd.R_below (by (with_reducible repeat (first | apply Kd.R_alloc | apply Kd.R_drewN | apply Kd.R_drew)); exact HO_318010.out) hb); have n2_ := Aside0.mk (blk_below (g := gb302) (o := .cells #[.int .i64 t288, .int .i64 t289, .int .i64 t290, .int .i64 t291, .int .i64 t292, .int .i64 t293, .int .i64 t294, .int .i64 t295, .int .i64 t296, .int .i64 t297, .slice Ao11 t298.length co11] 32 (0, 0)) (by (with_reducible repeat (first | refine blk_drewN ?_ _ | refine blk_drew ?_ | refine blk_alloc ?_ _)); exact BK302.out) hb); have n3_ := Aside0.mk (blk_below (g := gb317) (o := .cells #[.int .i64 t303, .int .i64 t304, .int .i64 t305, .int .i64 t306, .int .i64 t307, .int .i64 t308, .int .i64 t309, .int .i64 t310, .int .i64 t311, .int .i64 t312, .slice Ao16 t313.length co16] 32 (0, 0)) (by (with_reducible repeat (first | refine blk_drewN ?_ _ | refine blk_drew ?_ | refine blk_alloc ?_ _)); exact BK317.out) hb); have n4_ := Aside0.mk (below_step (by repeat (first | (with_reducible first | exact HB.out | apply below_alloc | apply pw_below_drewN | apply below_drew1 | refine below_set ?_ GE302.out | refine below_set ?_ GE317.out) | exact HB.out)) hb); clear HO_303010; clear HO_318010; clear BK302; clear BK317; clear HB; have HO_303010 := n0_; have HO_318010 := n1_; have BK302 := n2_; have BK317 := n3_; have HB := n4_; clear n0_ n1_ n2_ n3_ n4_; (try clear hb); (try clear hb2); (try clear hk); (try clear hi)))
      go_ret
      exact ⟨by first | rfl | (simp [errW_none, errW_some] <;> rfl) | (simp [*, errW_none, errW_some] <;> rfl), by repeat (first | (with_reducible first | exact HB.out | apply below_alloc | apply pw_below_drewN | apply below_drew1 | refine below_set ?_ GE302.out | refine below_set ?_ GE317.out) | exact HB.out)⟩

/-- THE ONE PURE STATEMENT of switchboardlaw07_WireTakes: yours. -/
def switchboardlaw07_WireTakes.Pure : Prop := ∀ (a0 : ByteArray), a0.size ≤ 140737488351232 → ∃ k, switchboardlaw07_WireTakes.f k a0 = some true
theorem switchboardlaw07_WireTakes.walk (P : switchboardlaw07_WireTakes.Pure) (a0 : ByteArray) (w : World) (w0 : a0.size ≤ 140737488351232) :
  Calls Try.prog 8 #[.string a0] w fun e w' => e = .returned (.bool true) ∧ Below w.heap.size w w' := by
 obtain ⟨k, h⟩ := P a0 w0
 refine (switchboardlaw07_WireTakes.calls k a0 true w h).mono ?_
 rintro e w' ⟨rfl, hd⟩
 exact ⟨rfl, hd⟩

end
end Go.Proofs.Ytgfpkhihdahjlab.QWire
