-- PRINTED BY print.sh 35421559b90ae4d0a3588c463048766b98c2df88dd9212a6774a882060cdf62d: not written by this session
import Derived.Test.YtgfpkhihdahjlaaPShareTenx0
namespace Go.Proofs.Ytgfpkhihdahjlaa.PShareTen
open Go.RowKit Go.Proofs.YtgfpkhihdahjlaaW.PrintWords Go.Proofs.YtgfpkhihdahjlaaW.PrintLast Go.Proofs.YtgfpkhihdahjlaaW.PrintMore
attribute [local go_sem] max2_int min2_int max_two min_two max_three min_three max_four min_four   -- for this text's walks alone
set_option linter.unusedVariables false
set_option linter.unusedSimpArgs false

/-! ### fix_Hold: function 16 -/
def fix_Hold.f (a0 : Int) : Option (Int) := some (mx (-2147483647) (mn 2147483647 a0))
set_option maxHeartbeats 8000000 in
set_option maxRecDepth 100000 in
theorem fix_Hold.calls (a0 : Int) (r : Int) (w : World) (h : fix_Hold.f a0 = some r) :
    Calls Try.prog 16 #[.int .i64 a0] w fun e w' => e = .returned (.int .i64 r) ∧ Below w.heap.size w w' := by
  have HB := Aside0.mk (Below.refl w.heap.size w)
  have H : (some (mx (-2147483647) (mn 2147483647 a0))) = some r := h
  clear h
  obtain ⟨ji2, hji2⟩ : ∃ j_ : Int, (mn 2147483647 a0) = j_ := ⟨_, rfl⟩
  replace H : (some (mx (-2147483647) (ji2))) = some r := by first | (rw [hji2] at H; exact H) | (simp only [hji2] at H ⊢; exact H)
  (try (have hji2h : ji2 ≤ 2147483647 := by (rw [← hji2]; unfold mn; (repeat' split) <;> omega)))
  (try (have hji2g : ji2 ≤ 64 := by omega))
  have hji2_ : (if a0 < 2147483647 then a0 else 2147483647) = ji2 := hji2
  obtain ⟨ji3, hji3⟩ : ∃ j_ : Int, (mx (-2147483647) (ji2)) = j_ := ⟨_, rfl⟩
  replace H : (some ji3) = some r := by first | (rw [hji3] at H; exact H) | (simp only [hji3] at H ⊢; exact H)
  have hji3_ : (if (-2147483647) < (ji2) then (ji2) else (-2147483647)) = ji3 := hji3
  obtain rfl := Option.some.inj H
  go_enter Try.func16, Try.ntmps16
  go_wp2
  go_ret
  exact ⟨by first | rfl | (simp [errW_none, errW_some] <;> rfl) | (simp only [← hji2, ← hji3]; first | rfl | (simp [errW_none, errW_some] <;> rfl)) | (simp [*, errW_none, errW_some] <;> rfl), by repeat (first | (with_reducible first | exact HB.out | apply below_alloc | apply pw_below_drewN | apply below_drew1) | exact HB.out)⟩

/-! ### share_Shares: function 26 -/
def share_Shares.f (a0 : Int) (a1 : Int) : Option (Int × Int) := (fix_Hold.f a0).bind fun t101 => ((fix_Hold.f a1).bind fun t102 => (if (wrap64 ((wrap64 ((mx t101 0) + 1)) + (wrap64 ((mx t102 0) + 1)))) = 0 then (none) else (some (wrap64 (Int.tdiv (wrap64 ((wrap64 ((mx t101 0) + 1)) * 65536)) (wrap64 ((wrap64 ((mx t101 0) + 1)) + (wrap64 ((mx t102 0) + 1))))), wrap64 (65536 - (wrap64 (Int.tdiv (wrap64 ((wrap64 ((mx t101 0) + 1)) * 65536)) (wrap64 ((wrap64 ((mx t101 0) + 1)) + (wrap64 ((mx t102 0) + 1)))))))))))
set_option maxHeartbeats 8000000 in
set_option maxRecDepth 100000 in
theorem share_Shares.calls (a0 : Int) (a1 : Int) (r1 : Int) (r2 : Int) (w : World) (h : share_Shares.f a0 a1 = some (r1, r2)) :
    Calls Try.prog 26 #[.int .i64 a0, .int .i64 a1] w fun e w' => e = .returned (.tuple #[.int .i64 r1, .int .i64 r2]) ∧ Below w.heap.size w w' := by
  have HB := Aside0.mk (Below.refl w.heap.size w)
  have H : ((fix_Hold.f a0).bind fun t101 => ((fix_Hold.f a1).bind fun t102 => (if (wrap64 ((wrap64 ((mx t101 0) + 1)) + (wrap64 ((mx t102 0) + 1)))) = 0 then (none) else (some (wrap64 (Int.tdiv (wrap64 ((wrap64 ((mx t101 0) + 1)) * 65536)) (wrap64 ((wrap64 ((mx t101 0) + 1)) + (wrap64 ((mx t102 0) + 1))))), wrap64 (65536 - (wrap64 (Int.tdiv (wrap64 ((wrap64 ((mx t101 0) + 1)) * 65536)) (wrap64 ((wrap64 ((mx t101 0) + 1)) + (wrap64 ((mx t102 0) + 1)))))))))))) = some (r1, r2) := h
  clear h
  replace H := Option.bind_eq_some_iff.mp H
  obtain ⟨t101, A30, H⟩ := H
  replace H : ((fix_Hold.f a1).bind fun t102 => (if (wrap64 ((wrap64 ((mx t101 0) + 1)) + (wrap64 ((mx t102 0) + 1)))) = 0 then (none) else (some (wrap64 (Int.tdiv (wrap64 ((wrap64 ((mx t101 0) + 1)) * 65536)) (wrap64 ((wrap64 ((mx t101 0) + 1)) + (wrap64 ((mx t102 0) + 1))))), wrap64 (65536 - (wrap64 (Int.tdiv (wrap64 ((wrap64 ((mx t101 0) + 1)) * 65536)) (wrap64 ((wrap64 ((mx t101 0) + 1)) + (wrap64 ((mx t102 0) + 1))))))))))) = some (r1, r2) := H
  have A3 := Aside0.mk A30
  clear A30
  obtain ⟨ji4, hji4⟩ : ∃ j_ : Int, (mx t101 0) = j_ := ⟨_, rfl⟩
  replace H : ((fix_Hold.f a1).bind fun t102 => (if (wrap64 ((wrap64 ((ji4) + 1)) + (wrap64 ((mx t102 0) + 1)))) = 0 then (none) else (some (wrap64 (Int.tdiv (wrap64 ((wrap64 ((ji4) + 1)) * 65536)) (wrap64 ((wrap64 ((ji4) + 1)) + (wrap64 ((mx t102 0) + 1))))), wrap64 (65536 - (wrap64 (Int.tdiv (wrap64 ((wrap64 ((ji4) + 1)) * 65536)) (wrap64 ((wrap64 ((ji4) + 1)) + (wrap64 ((mx t102 0) + 1))))))))))) = some (r1, r2) := by first | (rw [hji4] at H; exact H) | (simp only [hji4] at H ⊢; exact H)
  (try rw [hji4] at A3)
  (try (have hji4l : 0 ≤ ji4 := by (rw [← hji4]; unfold mx; (repeat' split) <;> omega)))
  (try (have hji4m : 0 ≤ ji4 := by omega))
  have hji4_ : (if t101 < 0 then 0 else t101) = ji4 := hji4
  replace H := Option.bind_eq_some_iff.mp H
  obtain ⟨t102, A50, H⟩ := H
  replace H : (if (wrap64 ((wrap64 ((ji4) + 1)) + (wrap64 ((mx t102 0) + 1)))) = 0 then (none) else (some (wrap64 (Int.tdiv (wrap64 ((wrap64 ((ji4) + 1)) * 65536)) (wrap64 ((wrap64 ((ji4) + 1)) + (wrap64 ((mx t102 0) + 1))))), wrap64 (65536 - (wrap64 (Int.tdiv (wrap64 ((wrap64 ((ji4) + 1)) * 65536)) (wrap64 ((wrap64 ((ji4) + 1)) + (wrap64 ((mx t102 0) + 1)))))))))) = some (r1, r2) := H
  have A5 := Aside0.mk A50
  clear A50
  obtain ⟨ji6, hji6⟩ : ∃ j_ : Int, (mx t102 0) = j_ := ⟨_, rfl⟩
  replace H : (if (wrap64 ((wrap64 ((ji4) + 1)) + (wrap64 ((ji6) + 1)))) = 0 then (none) else (some (wrap64 (Int.tdiv (wrap64 ((wrap64 ((ji4) + 1)) * 65536)) (wrap64 ((wrap64 ((ji4) + 1)) + (wrap64 ((ji6) + 1))))), wrap64 (65536 - (wrap64 (Int.tdiv (wrap64 ((wrap64 ((ji4) + 1)) * 65536)) (wrap64 ((wrap64 ((ji4) + 1)) + (wrap64 ((ji6) + 1)))))))))) = some (r1, r2) := by first | (rw [hji6] at H; exact H) | (simp only [hji6] at H ⊢; exact H)
  (try rw [hji6] at A3)
  (try rw [hji6] at A5)
  (try (have hji6l : 0 ≤ ji6 := by (rw [← hji6]; unfold mx; (repeat' split) <;> omega)))
  (try (have hji6m : 0 ≤ ji6 := by omega))
  have hji6_ : (if t102 < 0 then 0 else t102) = ji6 := hji6
  by_cases c7 : (wrap64 ((wrap64 ((ji4) + 1)) + (wrap64 ((ji6) + 1)))) = 0
  · rw [if_pos c7] at H
    exact absurd H (by simp)
  · rw [if_neg c7] at H
    have c7b0 : ((wrap64 ((wrap64 ((ji4) + 1)) + (wrap64 ((ji6) + 1)))) == 0) = false := beq_eq_false_iff_ne.mpr c7
    have c7b1 : ((wrap64 ((wrap64 ((ji4) + 1)) + (wrap64 ((ji6) + 1)))) != 0) = true := bne_iff_ne.mpr c7
    simp only [Option.some.injEq, Prod.mk.injEq] at H
    obtain ⟨rfl, rfl⟩ := H
    go_enter Try.func26, Try.ntmps26
    go_wp2_with (first | ((with_reducible refine gate_callee (f := 16) rfl ?_); refine goesL_ (some 10) rfl rfl Try.func16 (by kernel_rfl) rfl #[.int .i64 a0] rfl (by (try simp only [List.map_toArray, List.map_cons, List.map_nil]); first | done | rfl | (simp only [List.length_drop, List.length_take]; rfl)) ?_; (with_reducible refine (fix_Hold.calls a0 t101 _ A3.out).mono ?_); rintro e w8 ⟨rfl, hb⟩; refine ⟨_, rfl, ?_⟩; have n0_ := Aside0.mk (below_step (by repeat (first | (with_reducible first | exact HB.out | apply below_alloc | apply pw_below_drewN | apply below_drew1) | exact HB.out)) hb); clear HB; have HB := n0_; clear n0_; (try clear hb); (try clear hb2); (try clear hk); (try clear hi)) | ((with_reducible refine gate_callee (f := 16) rfl ?_); refine goesL_ (some 14) rfl rfl Try.func16 (by kernel_rfl) rfl #[.int .i64 a1] rfl (by (try simp only [List.map_toArray, List.map_cons, List.map_nil]); first | done | rfl | (simp only [List.length_drop, List.length_take]; rfl)) ?_; (with_reducible refine (fix_Hold.calls a1 t102 _ A5.out).mono ?_); rintro e w9 ⟨rfl, hb⟩; refine ⟨_, rfl, ?_⟩; have n0_ := Aside0.mk (below_step (by repeat (first | (with_reducible first | exact HB.out | apply below_alloc | apply pw_below_drewN | apply below_drew1) | exact HB.out)) hb); clear HB; have HB := n0_; clear n0_; (try clear hb); (try clear hb2); (try clear hk); (try clear hi)))
    go_ret2
    exact ⟨by first | rfl | (simp [errW_none, errW_some] <;> rfl) | (simp only [← hji4, ← hji6]; first | rfl | (simp [errW_none, errW_some] <;> rfl)) | (simp [*, errW_none, errW_some] <;> rfl), by repeat (first | (with_reducible first | exact HB.out | apply below_alloc | apply pw_below_drewN | apply below_drew1) | exact HB.out)⟩

/-! ### switchboardlaw05_awake: function 28 -/
def switchboardlaw05_awake.f  : Option (Bool) := (share_Shares.f 5 5).bind fun bt103 => (if bt103.1 = 32768 then (some (bt103.2 == 32768)) else (some false))
set_option maxHeartbeats 8000000 in
set_option maxRecDepth 100000 in
theorem switchboardlaw05_awake.calls  (r : Bool) (w : World) (h : switchboardlaw05_awake.f  = some r) :
    Calls Try.prog 28 #[] w fun e w' => e = .returned (.bool r) ∧ Below w.heap.size w w' := by
  have HB := Aside0.mk (Below.refl w.heap.size w)
  have H : ((share_Shares.f 5 5).bind fun bt103 => (if bt103.1 = 32768 then (some (bt103.2 == 32768)) else (some false))) = some r := h
  clear h
  replace H := Option.bind_eq_some_iff.mp H
  obtain ⟨⟨t103, t104⟩, A10, H⟩ := H
  replace H : (if t103 = 32768 then (some (t104 == 32768)) else (some false)) = some r := H
  have A1 := Aside0.mk A10
  clear A10
  by_cases c2 : t103 = 32768
  · rw [if_pos c2] at H
    have c2b0 : (t103 == 32768) = true := beq_iff_eq.mpr c2
    have c2b1 : (t103 != 32768) = false := bne_eq_false_iff_eq.mpr c2
    clear c2
    obtain rfl := Option.some.inj H
    go_enter Try.func28, Try.ntmps28
    go_wp2_with (first | ((with_reducible refine gate_callee (f := 26) rfl ?_); refine goesL_ (some 4) rfl rfl Try.func26 (by kernel_rfl) rfl #[.int .i64 5, .int .i64 5] rfl (by (try simp only [List.map_toArray, List.map_cons, List.map_nil]); first | done | rfl | (simp only [List.length_drop, List.length_take]; rfl)) ?_; (with_reducible refine (share_Shares.calls 5 5 t103 t104 _ A1.out).mono ?_); rintro e w3 ⟨rfl, hb⟩; refine ⟨_, rfl, ?_⟩; have n0_ := Aside0.mk (below_step (by repeat (first | (with_reducible first | exact HB.out | apply below_alloc | apply pw_below_drewN | apply below_drew1) | exact HB.out)) hb); clear HB; have HB := n0_; clear n0_; (try clear hb); (try clear hb2); (try clear hk); (try clear hi)))
    go_ret
    exact ⟨by first | rfl | (simp [errW_none, errW_some] <;> rfl) | (simp [*, errW_none, errW_some] <;> rfl), by repeat (first | (with_reducible first | exact HB.out | apply below_alloc | apply pw_below_drewN | apply below_drew1) | exact HB.out)⟩
  · rw [if_neg c2] at H
    have c2b0 : (t103 == 32768) = false := beq_eq_false_iff_ne.mpr c2
    have c2b1 : (t103 != 32768) = true := bne_iff_ne.mpr c2
    obtain rfl := Option.some.inj H
    go_enter Try.func28, Try.ntmps28
    go_wp2_with (first | ((with_reducible refine gate_callee (f := 26) rfl ?_); refine goesL_ (some 4) rfl rfl Try.func26 (by kernel_rfl) rfl #[.int .i64 5, .int .i64 5] rfl (by (try simp only [List.map_toArray, List.map_cons, List.map_nil]); first | done | rfl | (simp only [List.length_drop, List.length_take]; rfl)) ?_; (with_reducible refine (share_Shares.calls 5 5 t103 t104 _ A1.out).mono ?_); rintro e w4 ⟨rfl, hb⟩; refine ⟨_, rfl, ?_⟩; have n0_ := Aside0.mk (below_step (by repeat (first | (with_reducible first | exact HB.out | apply below_alloc | apply pw_below_drewN | apply below_drew1) | exact HB.out)) hb); clear HB; have HB := n0_; clear n0_; (try clear hb); (try clear hb2); (try clear hk); (try clear hi)))
    go_ret
    exact ⟨by first | rfl | (simp [errW_none, errW_some] <;> rfl) | (simp [*, errW_none, errW_some] <;> rfl), by repeat (first | (with_reducible first | exact HB.out | apply below_alloc | apply pw_below_drewN | apply below_drew1) | exact HB.out)⟩

/-! ### switchboardlaw05_ShareTen: function 14 -/
def switchboardlaw05_ShareTen.f (a0 : Int) : Option (Bool) := (share_Shares.f (wrap64 (10 * (wrap64 (9 + (wrap64 (Int.tmod a0 67108864)))))) (wrap64 (9 + (wrap64 (Int.tmod a0 67108864))))).bind fun bt105 => (if (wrap64 (11 * bt105.1)) ≤ 655360 then (if (wrap64 (11 * bt105.1)) ≥ 589824 then (if (wrap64 (bt105.1 + bt105.2)) = 65536 then ((switchboardlaw05_awake.f).bind fun t107 => (some t107)) else (some false)) else (some false)) else (some false))
set_option maxHeartbeats 8000000 in
set_option maxRecDepth 100000 in
theorem switchboardlaw05_ShareTen.calls (a0 : Int) (r : Bool) (w : World) (h : switchboardlaw05_ShareTen.f a0 = some r) :
    Calls Try.prog 14 #[.int .u32 a0] w fun e w' => e = .returned (.bool r) ∧ Below w.heap.size w w' := by
  have HB := Aside0.mk (Below.refl w.heap.size w)
  have H : ((share_Shares.f (wrap64 (10 * (wrap64 (9 + (wrap64 (Int.tmod a0 67108864)))))) (wrap64 (9 + (wrap64 (Int.tmod a0 67108864))))).bind fun bt105 => (if (wrap64 (11 * bt105.1)) ≤ 655360 then (if (wrap64 (11 * bt105.1)) ≥ 589824 then (if (wrap64 (bt105.1 + bt105.2)) = 65536 then ((switchboardlaw05_awake.f).bind fun t107 => (some t107)) else (some false)) else (some false)) else (some false))) = some r := h
  clear h
  replace H := Option.bind_eq_some_iff.mp H
  obtain ⟨⟨t105, t106⟩, A20, H⟩ := H
  replace H : (if (wrap64 (11 * t105)) ≤ 655360 then (if (wrap64 (11 * t105)) ≥ 589824 then (if (wrap64 (t105 + t106)) = 65536 then ((switchboardlaw05_awake.f).bind fun t107 => (some t107)) else (some false)) else (some false)) else (some false)) = some r := H
  have A2 := Aside0.mk A20
  clear A20
  by_cases c3 : (wrap64 (11 * t105)) ≤ 655360
  · rw [if_pos c3] at H
    have c3b0 : decide ((wrap64 (11 * t105)) ≤ 655360) = true := decide_eq_true c3
    clear c3
    by_cases c4 : (wrap64 (11 * t105)) ≥ 589824
    · rw [if_pos c4] at H
      have c4b0 : decide (589824 ≤ (wrap64 (11 * t105))) = true := decide_eq_true c4
      clear c4
      by_cases c5 : (wrap64 (t105 + t106)) = 65536
      · rw [if_pos c5] at H
        have c5b0 : ((wrap64 (t105 + t106)) == 65536) = true := beq_iff_eq.mpr c5
        have c5b1 : ((wrap64 (t105 + t106)) != 65536) = false := bne_eq_false_iff_eq.mpr c5
        clear c5
        replace H := Option.bind_eq_some_iff.mp H
        obtain ⟨t107, A60, H⟩ := H
        replace H : (some t107) = some r := H
        have A6 := Aside0.mk A60
        clear A60
        obtain rfl := Option.some.inj H
        go_enter Try.func14, Try.ntmps14
        go_wp2_with (first | ((with_reducible refine gate_callee (f := 26) rfl ?_); refine goesL_ (some 14) rfl rfl Try.func26 (by kernel_rfl) rfl #[.int .i64 (wrap64 (10 * (wrap64 (9 + (wrap64 (Int.tmod a0 67108864)))))), .int .i64 (wrap64 (9 + (wrap64 (Int.tmod a0 67108864))))] rfl (by (try simp only [List.map_toArray, List.map_cons, List.map_nil]); first | done | rfl | (simp only [List.length_drop, List.length_take]; rfl)) ?_; (with_reducible refine (share_Shares.calls (wrap64 (10 * (wrap64 (9 + (wrap64 (Int.tmod a0 67108864)))))) (wrap64 (9 + (wrap64 (Int.tmod a0 67108864)))) t105 t106 _ A2.out).mono ?_); rintro e w7 ⟨rfl, hb⟩; refine ⟨_, rfl, ?_⟩; have n0_ := Aside0.mk (below_step (by repeat (first | (with_reducible first | exact HB.out | apply below_alloc | apply pw_below_drewN | apply below_drew1) | exact HB.out)) hb); clear HB; have HB := n0_; clear n0_; (try clear hb); (try clear hb2); (try clear hk); (try clear hi)) | (go_at_call 28; (with_reducible refine (switchboardlaw05_awake.calls  t107 _ A6.out).mono ?_); rintro e w8 ⟨rfl, hb⟩; have n0_ := Aside0.mk (below_step (by repeat (first | (with_reducible first | exact HB.out | apply below_alloc | apply pw_below_drewN | apply below_drew1) | exact HB.out)) hb); clear HB; have HB := n0_; clear n0_; (try clear hb); (try clear hb2); (try clear hk); (try clear hi)))
        go_ret
        exact ⟨by first | rfl | (simp [errW_none, errW_some] <;> rfl) | (simp [*, errW_none, errW_some] <;> rfl), by repeat (first | (with_reducible first | exact HB.out | apply below_alloc | apply pw_below_drewN | apply below_drew1) | exact HB.out)⟩
      · rw [if_neg c5] at H
        have c5b0 : ((wrap64 (t105 + t106)) == 65536) = false := beq_eq_false_iff_ne.mpr c5
        have c5b1 : ((wrap64 (t105 + t106)) != 65536) = true := bne_iff_ne.mpr c5
        obtain rfl := Option.some.inj H
        go_enter Try.func14, Try.ntmps14
        go_wp2_with (first | ((with_reducible refine gate_callee (f := 26) rfl ?_); refine goesL_ (some 14) rfl rfl Try.func26 (by kernel_rfl) rfl #[.int .i64 (wrap64 (10 * (wrap64 (9 + (wrap64 (Int.tmod a0 67108864)))))), .int .i64 (wrap64 (9 + (wrap64 (Int.tmod a0 67108864))))] rfl (by (try simp only [List.map_toArray, List.map_cons, List.map_nil]); first | done | rfl | (simp only [List.length_drop, List.length_take]; rfl)) ?_; (with_reducible refine (share_Shares.calls (wrap64 (10 * (wrap64 (9 + (wrap64 (Int.tmod a0 67108864)))))) (wrap64 (9 + (wrap64 (Int.tmod a0 67108864)))) t105 t106 _ A2.out).mono ?_); rintro e w9 ⟨rfl, hb⟩; refine ⟨_, rfl, ?_⟩; have n0_ := Aside0.mk (below_step (by repeat (first | (with_reducible first | exact HB.out | apply below_alloc | apply pw_below_drewN | apply below_drew1) | exact HB.out)) hb); clear HB; have HB := n0_; clear n0_; (try clear hb); (try clear hb2); (try clear hk); (try clear hi)))
        go_ret
        exact ⟨by first | rfl | (simp [errW_none, errW_some] <;> rfl) | (simp [*, errW_none, errW_some] <;> rfl), by repeat (first | (with_reducible first | exact HB.out | apply below_alloc | apply pw_below_drewN | apply below_drew1) | exact HB.out)⟩
    · rw [if_neg c4] at H
      have c4b0 : decide (589824 ≤ (wrap64 (11 * t105))) = false := decide_eq_false c4
      clear c4
      obtain rfl := Option.some.inj H
      go_enter Try.func14, Try.ntmps14
      go_wp2_with (first | ((with_reducible refine gate_callee (f := 26) rfl ?_); refine goesL_ (some 14) rfl rfl Try.func26 (by kernel_rfl) rfl #[.int .i64 (wrap64 (10 * (wrap64 (9 + (wrap64 (Int.tmod a0 67108864)))))), .int .i64 (wrap64 (9 + (wrap64 (Int.tmod a0 67108864))))] rfl (by (try simp only [List.map_toArray, List.map_cons, List.map_nil]); first | done | rfl | (simp only [List.length_drop, List.length_take]; rfl)) ?_; (with_reducible refine (share_Shares.calls (wrap64 (10 * (wrap64 (9 + (wrap64 (Int.tmod a0 67108864)))))) (wrap64 (9 + (wrap64 (Int.tmod a0 67108864)))) t105 t106 _ A2.out).mono ?_); rintro e w10 ⟨rfl, hb⟩; refine ⟨_, rfl, ?_⟩; have n0_ := Aside0.mk (below_step (by repeat (first | (with_reducible first | exact HB.out | apply below_alloc | apply pw_below_drewN | apply below_drew1) | exact HB.out)) hb); clear HB; have HB := n0_; clear n0_; (try clear hb); (try clear hb2); (try clear hk); (try clear hi)))
      go_ret
      exact ⟨by first | rfl | (simp [errW_none, errW_some] <;> rfl) | (simp [*, errW_none, errW_some] <;> rfl), by repeat (first | (with_reducible first | exact HB.out | apply below_alloc | apply pw_below_drewN | apply below_drew1) | exact HB.out)⟩
  · rw [if_neg c3] at H
    have c3b0 : decide ((wrap64 (11 * t105)) ≤ 655360) = false := decide_eq_false c3
    clear c3
    obtain rfl := Option.some.inj H
    go_enter Try.func14, Try.ntmps14
    go_wp2_with (first | ((with_reducible refine gate_callee (f := 26) rfl ?_); refine goesL_ (some 14) rfl rfl Try.func26 (by kernel_rfl) rfl #[.int .i64 (wrap64 (10 * (wrap64 (9 + (wrap64 (Int.tmod a0 67108864)))))), .int .i64 (wrap64 (9 + (wrap64 (Int.tmod a0 67108864))))] rfl (by (try simp only [List.map_toArray, List.map_cons, List.map_nil]); first | done | rfl | (simp only [List.length_drop, List.length_take]; rfl)) ?_; (with_reducible refine (share_Shares.calls (wrap64 (10 * (wrap64 (9 + (wrap64 (Int.tmod a0 67108864)))))) (wrap64 (9 + (wrap64 (Int.tmod a0 67108864)))) t105 t106 _ A2.out).mono ?_); rintro e w11 ⟨rfl, hb⟩; refine ⟨_, rfl, ?_⟩; have n0_ := Aside0.mk (below_step (by repeat (first | (with_reducible first | exact HB.out | apply below_alloc | apply pw_below_drewN | apply below_drew1) | exact HB.out)) hb); clear HB; have HB := n0_; clear n0_; (try clear hb); (try clear hb2); (try clear hk); (try clear hi)))
    go_ret
    exact ⟨by first | rfl | (simp [errW_none, errW_some] <;> rfl) | (simp [*, errW_none, errW_some] <;> rfl), by repeat (first | (with_reducible first | exact HB.out | apply below_alloc | apply pw_below_drewN | apply below_drew1) | exact HB.out)⟩

/-- THE ONE PURE STATEMENT of switchboardlaw05_ShareTen: yours. -/
def switchboardlaw05_ShareTen.Pure : Prop := ∀ (a0 : Int), (Lit.int .u32 a0).wf = true → switchboardlaw05_ShareTen.f a0 = some true
theorem switchboardlaw05_ShareTen.walk (P : switchboardlaw05_ShareTen.Pure) (a0 : Int) (w : World) (w0 : (Lit.int .u32 a0).wf = true) :
    Calls Try.prog 14 #[.int .u32 a0] w fun e w' => e = .returned (.bool true) ∧ Below w.heap.size w w' := by
  have h := P a0 w0
  refine (switchboardlaw05_ShareTen.calls a0 true w h).mono ?_
  rintro e w' ⟨rfl, hd⟩
  exact ⟨rfl, hd⟩

end Go.Proofs.Ytgfpkhihdahjlaa.PShareTen
