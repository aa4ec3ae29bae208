-- PRINTED BY print.sh 35421559b90ae4d0a3588c463048766b98c2df88dd9212a6774a882060cdf62d: not written by this session
import Derived.Test.YtgfpkhihdahjlaaPShareExactx0
namespace Go.Proofs.Ytgfpkhihdahjlaa.PShareExact
open Go.RowKit Go.Proofs.YtgfpkhihdahjlaaW.PrintWords Go.Proofs.YtgfpkhihdahjlaaW.PrintLast Go.Proofs.YtgfpkhihdahjlaaW.PrintMore
attribute [local go_sem] max2_int min2_int max_two min_two max_three min_three max_four min_four   -- for this text's walks alone
set_option linter.unusedVariables false
set_option linter.unusedSimpArgs false

/-! ### fix_Hold: function 16 -/
def fix_Hold.f (a0 : Int) : Option (Int) := some (mx (-2147483647) (mn 2147483647 a0))
set_option maxHeartbeats 8000000 in
set_option maxRecDepth 100000 in
theorem fix_Hold.calls (a0 : Int) (r : Int) (w : World) (h : fix_Hold.f a0 = some r) :
    Calls Try.prog 16 #[.int .i64 a0] w fun e w' => e = .returned (.int .i64 r) ∧ Below w.heap.size w w' := by
  have HB := Aside0.mk (Below.refl w.heap.size w)
  have H : (some (mx (-2147483647) (mn 2147483647 a0))) = some r := h
  clear h
  obtain ⟨ji2, hji2⟩ : ∃ j_ : Int, (mn 2147483647 a0) = j_ := ⟨_, rfl⟩
  replace H : (some (mx (-2147483647) (ji2))) = some r := by first | (rw [hji2] at H; exact H) | (simp only [hji2] at H ⊢; exact H)
  (try (have hji2h : ji2 ≤ 2147483647 := by (rw [← hji2]; unfold mn; (repeat' split) <;> omega)))
  (try (have hji2g : ji2 ≤ 64 := by omega))
  have hji2_ : (if a0 < 2147483647 then a0 else 2147483647) = ji2 := hji2
  obtain ⟨ji3, hji3⟩ : ∃ j_ : Int, (mx (-2147483647) (ji2)) = j_ := ⟨_, rfl⟩
  replace H : (some ji3) = some r := by first | (rw [hji3] at H; exact H) | (simp only [hji3] at H ⊢; exact H)
  have hji3_ : (if (-2147483647) < (ji2) then (ji2) else (-2147483647)) = ji3 := hji3
  obtain rfl := Option.some.inj H
  go_enter Try.func16, Try.ntmps16
  go_wp2
  go_ret
  exact ⟨by first | rfl | (simp [errW_none, errW_some] <;> rfl) | (simp only [← hji2, ← hji3]; first | rfl | (simp [errW_none, errW_some] <;> rfl)) | (simp [*, errW_none, errW_some] <;> rfl), by repeat (first | (with_reducible first | exact HB.out | apply below_alloc | apply pw_below_drewN | apply below_drew1) | exact HB.out)⟩

/-! ### share_Shares: function 26 -/
def share_Shares.f (a0 : Int) (a1 : Int) : Option (Int × Int) := (fix_Hold.f a0).bind fun t101 => ((fix_Hold.f a1).bind fun t102 => (if (wrap64 ((wrap64 ((mx t101 0) + 1)) + (wrap64 ((mx t102 0) + 1)))) = 0 then (none) else (some (wrap64 (Int.tdiv (wrap64 ((wrap64 ((mx t101 0) + 1)) * 65536)) (wrap64 ((wrap64 ((mx t101 0) + 1)) + (wrap64 ((mx t102 0) + 1))))), wrap64 (65536 - (wrap64 (Int.tdiv (wrap64 ((wrap64 ((mx t101 0) + 1)) * 65536)) (wrap64 ((wrap64 ((mx t101 0) + 1)) + (wrap64 ((mx t102 0) + 1)))))))))))
set_option maxHeartbeats 8000000 in
set_option maxRecDepth 100000 in
theorem share_Shares.calls (a0 : Int) (a1 : Int) (r1 : Int) (r2 : Int) (w : World) (h : share_Shares.f a0 a1 = some (r1, r2)) :
    Calls Try.prog 26 #[.int .i64 a0, .int .i64 a1] w fun e w' => e = .returned (.tuple #[.int .i64 r1, .int .i64 r2]) ∧ Below w.heap.size w w' := by
  have HB := Aside0.mk (Below.refl w.heap.size w)
  have H : ((fix_Hold.f a0).bind fun t101 => ((fix_Hold.f a1).bind fun t102 => (if (wrap64 ((wrap64 ((mx t101 0) + 1)) + (wrap64 ((mx t102 0) + 1)))) = 0 then (none) else (some (wrap64 (Int.tdiv (wrap64 ((wrap64 ((mx t101 0) + 1)) * 65536)) (wrap64 ((wrap64 ((mx t101 0) + 1)) + (wrap64 ((mx t102 0) + 1))))), wrap64 (65536 - (wrap64 (Int.tdiv (wrap64 ((wrap64 ((mx t101 0) + 1)) * 65536)) (wrap64 ((wrap64 ((mx t101 0) + 1)) + (wrap64 ((mx t102 0) + 1)))))))))))) = some (r1, r2) := h
  clear h
  replace H := Option.bind_eq_some_iff.mp H
  obtain ⟨t101, A30, H⟩ := H
  replace H : ((fix_Hold.f a1).bind fun t102 => (if (wrap64 ((wrap64 ((mx t101 0) + 1)) + (wrap64 ((mx t102 0) + 1)))) = 0 then (none) else (some (wrap64 (Int.tdiv (wrap64 ((wrap64 ((mx t101 0) + 1)) * 65536)) (wrap64 ((wrap64 ((mx t101 0) + 1)) + (wrap64 ((mx t102 0) + 1))))), wrap64 (65536 - (wrap64 (Int.tdiv (wrap64 ((wrap64 ((mx t101 0) + 1)) * 65536)) (wrap64 ((wrap64 ((mx t101 0) + 1)) + (wrap64 ((mx t102 0) + 1))))))))))) = some (r1, r2) := H
  have A3 := Aside0.mk A30
  clear A30
  obtain ⟨ji4, hji4⟩ : ∃ j_ : Int, (mx t101 0) = j_ := ⟨_, rfl⟩
  replace H : ((fix_Hold.f a1).bind fun t102 => (if (wrap64 ((wrap64 ((ji4) + 1)) + (wrap64 ((mx t102 0) + 1)))) = 0 then (none) else (some (wrap64 (Int.tdiv (wrap64 ((wrap64 ((ji4) + 1)) * 65536)) (wrap64 ((wrap64 ((ji4) + 1)) + (wrap64 ((mx t102 0) + 1))))), wrap64 (65536 - (wrap64 (Int.tdiv (wrap64 ((wrap64 ((ji4) + 1)) * 65536)) (wrap64 ((wrap64 ((ji4) + 1)) + (wrap64 ((mx t102 0) + 1))))))))))) = some (r1, r2) := by first | (rw [hji4] at H; exact H) | (simp only [hji4] at H ⊢; exact H)
  (try rw [hji4] at A3)
  (try (have hji4l : 0 ≤ ji4 := by (rw [← hji4]; unfold mx; (repeat' split) <;> omega)))
  (try (have hji4m : 0 ≤ ji4 := by omega))
  have hji4_ : (if t101 < 0 then 0 else t101) = ji4 := hji4
  replace H := Option.bind_eq_some_iff.mp H
  obtain ⟨t102, A50, H⟩ := H
  replace H : (if (wrap64 ((wrap64 ((ji4) + 1)) + (wrap64 ((mx t102 0) + 1)))) = 0 then (none) else (some (wrap64 (Int.tdiv (wrap64 ((wrap64 ((ji4) + 1)) * 65536)) (wrap64 ((wrap64 ((ji4) + 1)) + (wrap64 ((mx t102 0) + 1))))), wrap64 (65536 - (wrap64 (Int.tdiv (wrap64 ((wrap64 ((ji4) + 1)) * 65536)) (wrap64 ((wrap64 ((ji4) + 1)) + (wrap64 ((mx t102 0) + 1)))))))))) = some (r1, r2) := H
  have A5 := Aside0.mk A50
  clear A50
  obtain ⟨ji6, hji6⟩ : ∃ j_ : Int, (mx t102 0) = j_ := ⟨_, rfl⟩
  replace H : (if (wrap64 ((wrap64 ((ji4) + 1)) + (wrap64 ((ji6) + 1)))) = 0 then (none) else (some (wrap64 (Int.tdiv (wrap64 ((wrap64 ((ji4) + 1)) * 65536)) (wrap64 ((wrap64 ((ji4) + 1)) + (wrap64 ((ji6) + 1))))), wrap64 (65536 - (wrap64 (Int.tdiv (wrap64 ((wrap64 ((ji4) + 1)) * 65536)) (wrap64 ((wrap64 ((ji4) + 1)) + (wrap64 ((ji6) + 1)))))))))) = some (r1, r2) := by first | (rw [hji6] at H; exact H) | (simp only [hji6] at H ⊢; exact H)
  (try rw [hji6] at A3)
  (try rw [hji6] at A5)
  (try (have hji6l : 0 ≤ ji6 := by (rw [← hji6]; unfold mx; (repeat' split) <;> omega)))
  (try (have hji6m : 0 ≤ ji6 := by omega))
  have hji6_ : (if t102 < 0 then 0 else t102) = ji6 := hji6
  by_cases c7 : (wrap64 ((wrap64 ((ji4) + 1)) + (wrap64 ((ji6) + 1)))) = 0
  · rw [if_pos c7] at H
    exact absurd H (by simp)
  · rw [if_neg c7] at H
    have c7b0 : ((wrap64 ((wrap64 ((ji4) + 1)) + (wrap64 ((ji6) + 1)))) == 0) = false := beq_eq_false_iff_ne.mpr c7
    have c7b1 : ((wrap64 ((wrap64 ((ji4) + 1)) + (wrap64 ((ji6) + 1)))) != 0) = true := bne_iff_ne.mpr c7
    simp only [Option.some.injEq, Prod.mk.injEq] at H
    obtain ⟨rfl, rfl⟩ := H
    go_enter Try.func26, Try.ntmps26
    go_wp2_with (first | ((with_reducible refine gate_callee (f := 16) rfl ?_); refine goesL_ (some 10) rfl rfl Try.func16 (by kernel_rfl) rfl #[.int .i64 a0] rfl (by (try simp only [List.map_toArray, List.map_cons, List.map_nil]); first | done | rfl | (simp only [List.length_drop, List.length_take]; rfl)) ?_; (with_reducible refine (fix_Hold.calls a0 t101 _ A3.out).mono ?_); rintro e w8 ⟨rfl, hb⟩; refine ⟨_, rfl, ?_⟩; have n0_ := Aside0.mk (below_step (by repeat (first | (with_reducible first | exact HB.out | apply below_alloc | apply pw_below_drewN | apply below_drew1) | exact HB.out)) hb); clear HB; have HB := n0_; clear n0_; (try clear hb); (try clear hb2); (try clear hk); (try clear hi)) | ((with_reducible refine gate_callee (f := 16) rfl ?_); refine goesL_ (some 14) rfl rfl Try.func16 (by kernel_rfl) rfl #[.int .i64 a1] rfl (by (try simp only [List.map_toArray, List.map_cons, List.map_nil]); first | done | rfl | (simp only [List.length_drop, List.length_take]; rfl)) ?_; (with_reducible refine (fix_Hold.calls a1 t102 _ A5.out).mono ?_); rintro e w9 ⟨rfl, hb⟩; refine ⟨_, rfl, ?_⟩; have n0_ := Aside0.mk (below_step (by repeat (first | (with_reducible first | exact HB.out | apply below_alloc | apply pw_below_drewN | apply below_drew1) | exact HB.out)) hb); clear HB; have HB := n0_; clear n0_; (try clear hb); (try clear hb2); (try clear hk); (try clear hi)))
    go_ret2
    exact ⟨by first | rfl | (simp [errW_none, errW_some] <;> rfl) | (simp only [← hji4, ← hji6]; first | rfl | (simp [errW_none, errW_some] <;> rfl)) | (simp [*, errW_none, errW_some] <;> rfl), by repeat (first | (with_reducible first | exact HB.out | apply below_alloc | apply pw_below_drewN | apply below_drew1) | exact HB.out)⟩

/-! ### switchboardref05_part: function 38 -/
def switchboardref05_part.f (a0 : Int) : Option (Int) := if a0 < 0 then (some 1) else (if a0 > 2147483647 then (some 2147483648) else (some (wrap64 (a0 + 1))))
set_option maxHeartbeats 8000000 in
set_option maxRecDepth 100000 in
theorem switchboardref05_part.calls (a0 : Int) (r : Int) (w : World) (h : switchboardref05_part.f a0 = some r) :
    Calls Try.prog 38 #[.int .i64 a0] w fun e w' => e = .returned (.int .i64 r) ∧ Drawn0 w w' := by
  have H : (if a0 < 0 then (some 1) else (if a0 > 2147483647 then (some 2147483648) else (some (wrap64 (a0 + 1))))) = some r := h
  clear h
  by_cases c2 : a0 < 0
  · rw [if_pos c2] at H
    have c2b0 : decide (a0 < 0) = true := decide_eq_true c2
    clear c2
    obtain rfl := Option.some.inj H
    go_enter Try.func38, Try.ntmps38
    go_wp2
    go_ret
    exact ⟨by first | rfl | (simp; done) | (simp [*]; done), by repeat (first | exact Drawn0.refl _ | apply Drawn0.step)⟩
  · rw [if_neg c2] at H
    have c2b0 : decide (a0 < 0) = false := decide_eq_false c2
    clear c2
    by_cases c3 : a0 > 2147483647
    · rw [if_pos c3] at H
      have c3b0 : decide (2147483647 < a0) = true := decide_eq_true c3
      clear c3
      obtain rfl := Option.some.inj H
      go_enter Try.func38, Try.ntmps38
      go_wp2
      go_ret
      exact ⟨by first | rfl | (simp; done) | (simp [*]; done), by repeat (first | exact Drawn0.refl _ | apply Drawn0.step)⟩
    · rw [if_neg c3] at H
      have c3b0 : decide (2147483647 < a0) = false := decide_eq_false c3
      clear c3
      obtain rfl := Option.some.inj H
      go_enter Try.func38, Try.ntmps38
      go_wp2
      go_ret
      exact ⟨by first | rfl | (simp; done) | (simp [*]; done), by repeat (first | exact Drawn0.refl _ | apply Drawn0.step)⟩

/-! ### switchboardref05_Share: function 27 -/
def switchboardref05_Share.l0 : Nat → Int → Int → Int → Int → Int → Option (Int)
  | 0, _, _, _, _, _ => none
  | k + 1, x5, x6, x7, x8, x9 => if x9 < 16 then (if (wrap64 (2 * x8)) ≥ (wrap64 (x5 + x6)) then (switchboardref05_Share.l0 k x5 x6 (wrap64 ((wrap64 (2 * x7)) + 1)) (wrap64 ((wrap64 (2 * x8)) - (wrap64 (x5 + x6)))) (wrap64 (x9 + 1))) else (switchboardref05_Share.l0 k x5 x6 (wrap64 (2 * x7)) (wrap64 (2 * x8)) (wrap64 (x9 + 1)))) else (some x7)
def switchboardref05_Share.f (k : Nat) (a0 : Int) (a1 : Int) : Option (Int) := (switchboardref05_part.f a0).bind fun t103 => ((switchboardref05_part.f a1).bind fun t104 => (switchboardref05_Share.l0 k t103 t104 0 t103 0))
theorem switchboardref05_Share.mono_l : ∀ k, (∀ y0 y1 y2 y3 y4, LeO (switchboardref05_Share.l0 k y0 y1 y2 y3 y4) (switchboardref05_Share.l0 (k + 1) y0 y1 y2 y3 y4))
  | 0 => fun _ _ _ _ _ r h => by simp [switchboardref05_Share.l0] at h
  | k + 1 => by
    have ih0 := switchboardref05_Share.mono_l k
    · intro y0 y1 y2 y3 y4
      unfold switchboardref05_Share.l0
      repeat' first
      | (with_reducible exact ih0 _ _ _ _ _)
      | (with_reducible exact LeO.refl _)
      | (with_reducible exact LeO.none _)
      | (with_reducible refine LeO.ite ?_ ?_)
      | (with_reducible refine LeO.bind ?_ (fun _ => ?_))
      | exact ih0 _ _ _ _ _
      | exact LeO.none _
      | refine LeO.ite ?_ ?_
      | refine LeO.bind ?_ (fun _ => ?_)
theorem switchboardref05_Share.mono : ∀ a0 a1 k, LeO (switchboardref05_Share.f k a0 a1) (switchboardref05_Share.f (k + 1) a0 a1) := by
  intro a0 a1 k
  have ih0 := switchboardref05_Share.mono_l k
  unfold switchboardref05_Share.f
  repeat' first
      | (with_reducible exact ih0 _ _ _ _ _)
      | (with_reducible exact LeO.refl _)
      | (with_reducible exact LeO.none _)
      | (with_reducible refine LeO.ite ?_ ?_)
      | (with_reducible refine LeO.bind ?_ (fun _ => ?_))
      | exact ih0 _ _ _ _ _
      | exact LeO.none _
      | refine LeO.ite ?_ ?_
      | refine LeO.bind ?_ (fun _ => ?_)
set_option maxHeartbeats 8000000 in
set_option maxRecDepth 100000 in
theorem switchboardref05_Share.calls (k : Nat) (a0 : Int) (a1 : Int) (r : Int) (w : World) (h : switchboardref05_Share.f k a0 a1 = some r) :
    Calls Try.prog 27 #[.int .i64 a0, .int .i64 a1] w fun e w' => e = .returned (.int .i64 r) ∧ Drawn0 w w' := by
  have H : ((switchboardref05_part.f a0).bind fun t103 => ((switchboardref05_part.f a1).bind fun t104 => (switchboardref05_Share.l0 k t103 t104 0 t103 0))) = some r := h
  clear h
  replace H := Option.bind_eq_some_iff.mp H
  obtain ⟨t103, A30, H⟩ := H
  replace H : ((switchboardref05_part.f a1).bind fun t104 => (switchboardref05_Share.l0 k t103 t104 0 t103 0)) = some r := H
  have A3 := Aside0.mk A30
  clear A30
  replace H := Option.bind_eq_some_iff.mp H
  obtain ⟨t104, A40, H⟩ := H
  replace H : (switchboardref05_Share.l0 k t103 t104 0 t103 0) = some r := H
  have A4 := Aside0.mk A40
  clear A40
  have H' := Aside0.mk H
  clear H
  go_enter Try.func27, Try.ntmps27
  go_wp2_with (first | ((with_reducible refine gate_callee (f := 38) rfl ?_); refine goesL_ (some 11) rfl rfl Try.func38 (by kernel_rfl) rfl #[.int .i64 a0] rfl (by (try simp only [List.map_toArray, List.map_cons, List.map_nil]); first | done | rfl | (simp only [List.length_drop, List.length_take]; rfl)) ?_; (with_reducible refine (switchboardref05_part.calls a0 t103 _ A3.out).mono ?_); rintro e w' ⟨rfl, ⟨nd, rfl⟩⟩; refine ⟨_, rfl, ?_⟩) | ((with_reducible refine gate_callee (f := 38) rfl ?_); refine goesL_ (some 13) rfl rfl Try.func38 (by kernel_rfl) rfl #[.int .i64 a1] rfl (by (try simp only [List.map_toArray, List.map_cons, List.map_nil]); first | done | rfl | (simp only [List.length_drop, List.length_take]; rfl)) ?_; (with_reducible refine (switchboardref05_part.calls a1 t104 _ A4.out).mono ?_); rintro e w' ⟨rfl, ⟨nd, rfl⟩⟩; refine ⟨_, rfl, ?_⟩))
  go_loopg [7, 8, 9] k (fun kq v7 v8 v9 w' => ∃ (x7_1 : Int) (x8_1 : Int) (x9_1 : Int), v7 = .int .i64 x7_1 ∧ v8 = .int .i64 x8_1 ∧ v9 = .int .i64 x9_1 ∧ Aside0 (switchboardref05_Share.l0 kq t103 t104 x7_1 x8_1 x9_1 = some r) ∧ Aside0 (kq ≤ k) ∧ Drawn0 w w')
  case atStart => exact ⟨(0), (t103), (0), (by first | rfl | (simp; done) | (simp [*]; done)), (by first | rfl | (simp; done) | (simp [*]; done)), (by first | rfl | (simp; done) | (simp [*]; done)), H', ⟨Nat.le_refl _⟩, by repeat (first | exact Drawn0.refl _ | apply Drawn0.step)⟩
  case round =>
    clear H'
    try clear c2
    try clear p2
    try clear c3
    obtain ⟨x7_1, x8_1, x9_1, rfl, rfl, rfl, HA, HK1, ⟨m1, rfl⟩⟩ := hrel
    cases gk with
    | zero => exact absurd HA.out (by simp [switchboardref05_Share.l0])
    | succ k1 =>
      have H := HA.out
      clear HA
      simp only [switchboardref05_Share.l0] at H
      by_cases c5 : x9_1 < 16
      · rw [if_pos c5] at H
        have c5b0 : decide (x9_1 < 16) = true := decide_eq_true c5
        clear c5
        by_cases c6 : (wrap64 (2 * x8_1)) ≥ (wrap64 (t103 + t104))
        · rw [if_pos c6] at H
          have c6b0 : decide ((wrap64 (t103 + t104)) ≤ (wrap64 (2 * x8_1))) = true := decide_eq_true c6
          clear c6
          have H' := Aside0.mk H
          clear H
          go_wp2
          go_roundg k1
          case measure => have := HK1.out; omega
          case rel => exact ⟨(wrap64 ((wrap64 (2 * x7_1)) + 1)), (wrap64 ((wrap64 (2 * x8_1)) - (wrap64 (t103 + t104)))), (wrap64 (x9_1 + 1)), (by first | rfl | (simp; done) | (simp [*]; done)), (by first | rfl | (simp; done) | (simp [*]; done)), (by first | rfl | (simp; done) | (simp [*]; done)), H', ⟨by have := HK1.out; omega⟩, by repeat (first | exact Drawn0.refl _ | apply Drawn0.step)⟩
        · rw [if_neg c6] at H
          have c6b0 : decide ((wrap64 (t103 + t104)) ≤ (wrap64 (2 * x8_1))) = false := decide_eq_false c6
          clear c6
          have H' := Aside0.mk H
          clear H
          go_wp2
          go_roundg k1
          case measure => have := HK1.out; omega
          case rel => exact ⟨(wrap64 (2 * x7_1)), (wrap64 (2 * x8_1)), (wrap64 (x9_1 + 1)), (by first | rfl | (simp; done) | (simp [*]; done)), (by first | rfl | (simp; done) | (simp [*]; done)), (by first | rfl | (simp; done) | (simp [*]; done)), H', ⟨by have := HK1.out; omega⟩, by repeat (first | exact Drawn0.refl _ | apply Drawn0.step)⟩
      · rw [if_neg c5] at H
        have c5b0 : decide (x9_1 < 16) = false := decide_eq_false c5
        clear c5
        obtain rfl := Option.some.inj H
        go_wp2
        go_ret
        exact ⟨by first | rfl | (simp; done) | (simp [*]; done), by repeat (first | exact Drawn0.refl _ | apply Drawn0.step)⟩

/-! ### switchboardlaw05_awake: function 28 -/
def switchboardlaw05_awake.f  : Option (Bool) := (share_Shares.f 5 5).bind fun bt105 => (if bt105.1 = 32768 then (some (bt105.2 == 32768)) else (some false))
set_option maxHeartbeats 8000000 in
set_option maxRecDepth 100000 in
theorem switchboardlaw05_awake.calls  (r : Bool) (w : World) (h : switchboardlaw05_awake.f  = some r) :
    Calls Try.prog 28 #[] w fun e w' => e = .returned (.bool r) ∧ Below w.heap.size w w' := by
  have HB := Aside0.mk (Below.refl w.heap.size w)
  have H : ((share_Shares.f 5 5).bind fun bt105 => (if bt105.1 = 32768 then (some (bt105.2 == 32768)) else (some false))) = some r := h
  clear h
  replace H := Option.bind_eq_some_iff.mp H
  obtain ⟨⟨t105, t106⟩, A10, H⟩ := H
  replace H : (if t105 = 32768 then (some (t106 == 32768)) else (some false)) = some r := H
  have A1 := Aside0.mk A10
  clear A10
  by_cases c2 : t105 = 32768
  · rw [if_pos c2] at H
    have c2b0 : (t105 == 32768) = true := beq_iff_eq.mpr c2
    have c2b1 : (t105 != 32768) = false := bne_eq_false_iff_eq.mpr c2
    clear c2
    obtain rfl := Option.some.inj H
    go_enter Try.func28, Try.ntmps28
    go_wp2_with (first | ((with_reducible refine gate_callee (f := 26) rfl ?_); refine goesL_ (some 4) rfl rfl Try.func26 (by kernel_rfl) rfl #[.int .i64 5, .int .i64 5] rfl (by (try simp only [List.map_toArray, List.map_cons, List.map_nil]); first | done | rfl | (simp only [List.length_drop, List.length_take]; rfl)) ?_; (with_reducible refine (share_Shares.calls 5 5 t105 t106 _ A1.out).mono ?_); rintro e w3 ⟨rfl, hb⟩; refine ⟨_, rfl, ?_⟩; have n0_ := Aside0.mk (below_step (by repeat (first | (with_reducible first | exact HB.out | apply below_alloc | apply pw_below_drewN | apply below_drew1) | exact HB.out)) hb); clear HB; have HB := n0_; clear n0_; (try clear hb); (try clear hb2); (try clear hk); (try clear hi)))
    go_ret
    exact ⟨by first | rfl | (simp [errW_none, errW_some] <;> rfl) | (simp [*, errW_none, errW_some] <;> rfl), by repeat (first | (with_reducible first | exact HB.out | apply below_alloc | apply pw_below_drewN | apply below_drew1) | exact HB.out)⟩
  · rw [if_neg c2] at H
    have c2b0 : (t105 == 32768) = false := beq_eq_false_iff_ne.mpr c2
    have c2b1 : (t105 != 32768) = true := bne_iff_ne.mpr c2
    obtain rfl := Option.some.inj H
    go_enter Try.func28, Try.ntmps28
    go_wp2_with (first | ((with_reducible refine gate_callee (f := 26) rfl ?_); refine goesL_ (some 4) rfl rfl Try.func26 (by kernel_rfl) rfl #[.int .i64 5, .int .i64 5] rfl (by (try simp only [List.map_toArray, List.map_cons, List.map_nil]); first | done | rfl | (simp only [List.length_drop, List.length_take]; rfl)) ?_; (with_reducible refine (share_Shares.calls 5 5 t105 t106 _ A1.out).mono ?_); rintro e w4 ⟨rfl, hb⟩; refine ⟨_, rfl, ?_⟩; have n0_ := Aside0.mk (below_step (by repeat (first | (with_reducible first | exact HB.out | apply below_alloc | apply pw_below_drewN | apply below_drew1) | exact HB.out)) hb); clear HB; have HB := n0_; clear n0_; (try clear hb); (try clear hb2); (try clear hk); (try clear hi)))
    go_ret
    exact ⟨by first | rfl | (simp [errW_none, errW_some] <;> rfl) | (simp [*, errW_none, errW_some] <;> rfl), by repeat (first | (with_reducible first | exact HB.out | apply below_alloc | apply pw_below_drewN | apply below_drew1) | exact HB.out)⟩

/-! ### switchboardlaw05_ShareExact: function 10 -/
def switchboardlaw05_ShareExact.f (k : Nat) (a0 : Int) (a1 : Int) : Option (Bool) := (share_Shares.f a0 a1).bind fun bt107 => ((switchboardref05_Share.f k a0 a1).bind fun t109 => (if bt107.1 = t109 then (if (wrap64 (bt107.1 + bt107.2)) = 65536 then ((switchboardlaw05_awake.f).bind fun t110 => (some t110)) else (some false)) else (some false)))
theorem switchboardlaw05_ShareExact.mono : ∀ a0 a1 k, LeO (switchboardlaw05_ShareExact.f k a0 a1) (switchboardlaw05_ShareExact.f (k + 1) a0 a1) := by
  intro a0 a1 k
  unfold switchboardlaw05_ShareExact.f
  repeat' first
      | (with_reducible exact switchboardref05_Share.mono _ _ _)
      | (with_reducible exact LeO.refl _)
      | (with_reducible exact LeO.none _)
      | (with_reducible refine LeO.ite ?_ ?_)
      | (with_reducible refine LeO.bind ?_ (fun _ => ?_))
      | exact switchboardref05_Share.mono _ _ _
      | exact LeO.none _
      | refine LeO.ite ?_ ?_
      | refine LeO.bind ?_ (fun _ => ?_)
set_option maxHeartbeats 8000000 in
set_option maxRecDepth 100000 in
theorem switchboardlaw05_ShareExact.calls (k : Nat) (a0 : Int) (a1 : Int) (r : Bool) (w : World) (h : switchboardlaw05_ShareExact.f k a0 a1 = some r) :
    Calls Try.prog 10 #[.int .i64 a0, .int .i64 a1] w fun e w' => e = .returned (.bool r) ∧ Below w.heap.size w w' := by
  have HB := Aside0.mk (Below.refl w.heap.size w)
  have H : ((share_Shares.f a0 a1).bind fun bt107 => ((switchboardref05_Share.f k a0 a1).bind fun t109 => (if bt107.1 = t109 then (if (wrap64 (bt107.1 + bt107.2)) = 65536 then ((switchboardlaw05_awake.f).bind fun t110 => (some t110)) else (some false)) else (some false)))) = some r := h
  clear h
  replace H := Option.bind_eq_some_iff.mp H
  obtain ⟨⟨t107, t108⟩, A30, H⟩ := H
  replace H : ((switchboardref05_Share.f k a0 a1).bind fun t109 => (if t107 = t109 then (if (wrap64 (t107 + t108)) = 65536 then ((switchboardlaw05_awake.f).bind fun t110 => (some t110)) else (some false)) else (some false))) = some r := H
  have A3 := Aside0.mk A30
  clear A30
  replace H := Option.bind_eq_some_iff.mp H
  obtain ⟨t109, A40, H⟩ := H
  replace H : (if t107 = t109 then (if (wrap64 (t107 + t108)) = 65536 then ((switchboardlaw05_awake.f).bind fun t110 => (some t110)) else (some false)) else (some false)) = some r := H
  have A4 := Aside0.mk A40
  clear A40
  by_cases c5 : t107 = t109
  · rw [if_pos c5] at H
    have c5b0 : (t107 == t109) = true := beq_iff_eq.mpr c5
    have c5b1 : (t107 != t109) = false := bne_eq_false_iff_eq.mpr c5
    clear c5
    by_cases c6 : (wrap64 (t107 + t108)) = 65536
    · rw [if_pos c6] at H
      have c6b0 : ((wrap64 (t107 + t108)) == 65536) = true := beq_iff_eq.mpr c6
      have c6b1 : ((wrap64 (t107 + t108)) != 65536) = false := bne_eq_false_iff_eq.mpr c6
      clear c6
      replace H := Option.bind_eq_some_iff.mp H
      obtain ⟨t110, A70, H⟩ := H
      replace H : (some t110) = some r := H
      have A7 := Aside0.mk A70
      clear A70
      obtain rfl := Option.some.inj H
      go_enter Try.func10, Try.ntmps10
      go_wp2_with (first | ((with_reducible refine gate_callee (f := 26) rfl ?_); refine goesL_ (some 10) rfl rfl Try.func26 (by kernel_rfl) rfl #[.int .i64 a0, .int .i64 a1] rfl (by (try simp only [List.map_toArray, List.map_cons, List.map_nil]); first | done | rfl | (simp only [List.length_drop, List.length_take]; rfl)) ?_; (with_reducible refine (share_Shares.calls a0 a1 t107 t108 _ A3.out).mono ?_); rintro e w8 ⟨rfl, hb⟩; refine ⟨_, rfl, ?_⟩; have n0_ := Aside0.mk (below_step (by repeat (first | (with_reducible first | exact HB.out | apply below_alloc | apply pw_below_drewN | apply below_drew1) | exact HB.out)) hb); clear HB; have HB := n0_; clear n0_; (try clear hb); (try clear hb2); (try clear hk); (try clear hi)) | ((with_reducible refine gate_callee (f := 27) rfl ?_); refine goesL_ (some 16) rfl rfl Try.func27 (by kernel_rfl) rfl #[.int .i64 a0, .int .i64 a1] rfl (by (try simp only [List.map_toArray, List.map_cons, List.map_nil]); first | done | rfl | (simp only [List.length_drop, List.length_take]; rfl)) ?_; (with_reducible refine (switchboardref05_Share.calls k a0 a1 t109 _ A4.out).mono ?_); rintro e w' ⟨rfl, ⟨nd, rfl⟩⟩; refine ⟨_, rfl, ?_⟩) | (go_at_call 28; (with_reducible refine (switchboardlaw05_awake.calls  t110 _ A7.out).mono ?_); rintro e w9 ⟨rfl, hb⟩; have n0_ := Aside0.mk (below_step (by repeat (first | (with_reducible first | exact HB.out | apply below_alloc | apply pw_below_drewN | apply below_drew1) | exact HB.out)) hb); clear HB; have HB := n0_; clear n0_; (try clear hb); (try clear hb2); (try clear hk); (try clear hi)))
      go_ret
      exact ⟨by first | rfl | (simp [errW_none, errW_some] <;> rfl) | (simp [*, errW_none, errW_some] <;> rfl), by repeat (first | (with_reducible first | exact HB.out | apply below_alloc | apply pw_below_drewN | apply below_drew1) | exact HB.out)⟩
    · rw [if_neg c6] at H
      have c6b0 : ((wrap64 (t107 + t108)) == 65536) = false := beq_eq_false_iff_ne.mpr c6
      have c6b1 : ((wrap64 (t107 + t108)) != 65536) = true := bne_iff_ne.mpr c6
      obtain rfl := Option.some.inj H
      go_enter Try.func10, Try.ntmps10
      go_wp2_with (first | ((with_reducible refine gate_callee (f := 26) rfl ?_); refine goesL_ (some 10) rfl rfl Try.func26 (by kernel_rfl) rfl #[.int .i64 a0, .int .i64 a1] rfl (by (try simp only [List.map_toArray, List.map_cons, List.map_nil]); first | done | rfl | (simp only [List.length_drop, List.length_take]; rfl)) ?_; (with_reducible refine (share_Shares.calls a0 a1 t107 t108 _ A3.out).mono ?_); rintro e w10 ⟨rfl, hb⟩; refine ⟨_, rfl, ?_⟩; have n0_ := Aside0.mk (below_step (by repeat (first | (with_reducible first | exact HB.out | apply below_alloc | apply pw_below_drewN | apply below_drew1) | exact HB.out)) hb); clear HB; have HB := n0_; clear n0_; (try clear hb); (try clear hb2); (try clear hk); (try clear hi)) | ((with_reducible refine gate_callee (f := 27) rfl ?_); refine goesL_ (some 16) rfl rfl Try.func27 (by kernel_rfl) rfl #[.int .i64 a0, .int .i64 a1] rfl (by (try simp only [List.map_toArray, List.map_cons, List.map_nil]); first | done | rfl | (simp only [List.length_drop, List.length_take]; rfl)) ?_; (with_reducible refine (switchboardref05_Share.calls k a0 a1 t109 _ A4.out).mono ?_); rintro e w' ⟨rfl, ⟨nd, rfl⟩⟩; refine ⟨_, rfl, ?_⟩))
      go_ret
      exact ⟨by first | rfl | (simp [errW_none, errW_some] <;> rfl) | (simp [*, errW_none, errW_some] <;> rfl), by repeat (first | (with_reducible first | exact HB.out | apply below_alloc | apply pw_below_drewN | apply below_drew1) | exact HB.out)⟩
  · rw [if_neg c5] at H
    have c5b0 : (t107 == t109) = false := beq_eq_false_iff_ne.mpr c5
    have c5b1 : (t107 != t109) = true := bne_iff_ne.mpr c5
    obtain rfl := Option.some.inj H
    go_enter Try.func10, Try.ntmps10
    go_wp2_with (first | ((with_reducible refine gate_callee (f := 26) rfl ?_); refine goesL_ (some 10) rfl rfl Try.func26 (by kernel_rfl) rfl #[.int .i64 a0, .int .i64 a1] rfl (by (try simp only [List.map_toArray, List.map_cons, List.map_nil]); first | done | rfl | (simp only [List.length_drop, List.length_take]; rfl)) ?_; (with_reducible refine (share_Shares.calls a0 a1 t107 t108 _ A3.out).mono ?_); rintro e w11 ⟨rfl, hb⟩; refine ⟨_, rfl, ?_⟩; have n0_ := Aside0.mk (below_step (by repeat (first | (with_reducible first | exact HB.out | apply below_alloc | apply pw_below_drewN | apply below_drew1) | exact HB.out)) hb); clear HB; have HB := n0_; clear n0_; (try clear hb); (try clear hb2); (try clear hk); (try clear hi)) | ((with_reducible refine gate_callee (f := 27) rfl ?_); refine goesL_ (some 16) rfl rfl Try.func27 (by kernel_rfl) rfl #[.int .i64 a0, .int .i64 a1] rfl (by (try simp only [List.map_toArray, List.map_cons, List.map_nil]); first | done | rfl | (simp only [List.length_drop, List.length_take]; rfl)) ?_; (with_reducible refine (switchboardref05_Share.calls k a0 a1 t109 _ A4.out).mono ?_); rintro e w' ⟨rfl, ⟨nd, rfl⟩⟩; refine ⟨_, rfl, ?_⟩))
    go_ret
    exact ⟨by first | rfl | (simp [errW_none, errW_some] <;> rfl) | (simp [*, errW_none, errW_some] <;> rfl), by repeat (first | (with_reducible first | exact HB.out | apply below_alloc | apply pw_below_drewN | apply below_drew1) | exact HB.out)⟩

/-- THE ONE PURE STATEMENT of switchboardlaw05_ShareExact: yours. -/
def switchboardlaw05_ShareExact.Pure : Prop := ∀ (a0 : Int) (a1 : Int), (Lit.int .i64 a0).wf = true → (Lit.int .i64 a1).wf = true → ∃ k, switchboardlaw05_ShareExact.f k a0 a1 = some true
theorem switchboardlaw05_ShareExact.walk (P : switchboardlaw05_ShareExact.Pure) (a0 : Int) (a1 : Int) (w : World) (w0 : (Lit.int .i64 a0).wf = true) (w1 : (Lit.int .i64 a1).wf = true) :
    Calls Try.prog 10 #[.int .i64 a0, .int .i64 a1] w fun e w' => e = .returned (.bool true) ∧ Below w.heap.size w w' := by
  obtain ⟨k, h⟩ := P a0 a1 w0 w1
  refine (switchboardlaw05_ShareExact.calls k a0 a1 true w h).mono ?_
  rintro e w' ⟨rfl, hd⟩
  exact ⟨rfl, hd⟩

end Go.Proofs.Ytgfpkhihdahjlaa.PShareExact
