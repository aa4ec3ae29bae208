-- Printed by a program of this session's own (wip/gen), which turns the kit's printer; not one of the kit's printed texts.
import Derived.Test.YtgfpkhihdahjlabQWirex0
namespace Go.Proofs.Ytgfpkhihdahjlab.QWire
open Go.RowKit Go.Proofs.Ytgfpkhihdahjlab.Given Go.Proofs.YtgfpkhihdahjlabW.PrintWords Go.Proofs.YtgfpkhihdahjlabW.PrintLast Go.Proofs.YtgfpkhihdahjlabW.PrintMore
attribute [local go_sem] max2_int min2_int max_two min_two max_three min_three max_four min_four   -- for this text's walks alone
set_option linter.unusedVariables false
set_option linter.unusedSimpArgs false
noncomputable section

/-! ### switchboardref07_four: function 42 -/
def switchboardref07_four.f (a0 : Int) : Option (ByteArray) := if a0 < 0 then (some (strOfNums (([(Int.tmod (wrap64 (a0 + 4294967296)) 256) % 256, (Int.tmod (wrap64 (Int.tdiv (wrap64 (a0 + 4294967296)) 256)) 256) % 256, (Int.tmod (wrap64 (Int.tdiv (wrap64 (a0 + 4294967296)) 65536)) 256) % 256, (Int.tmod (wrap64 (Int.tdiv (wrap64 (a0 + 4294967296)) 16777216)) 256) % 256] : List Int)))) else (some (strOfNums (([(Int.tmod a0 256) % 256, (Int.tmod (wrap64 (Int.tdiv a0 256)) 256) % 256, (Int.tmod (wrap64 (Int.tdiv a0 65536)) 256) % 256, (Int.tmod (wrap64 (Int.tdiv a0 16777216)) 256) % 256] : List Int))))
set_option maxHeartbeats 8000000 in
set_option maxRecDepth 100000 in
theorem switchboardref07_four.calls (a0 : Int) (r : ByteArray) (w : World) (h : switchboardref07_four.f a0 = some r) :
  Calls Try.prog 42 #[.int .i64 a0] w fun e w' => e = .returned (.string r) ∧ Below w.heap.size w w' := by
 have HB := Aside0.mk (Below.refl w.heap.size w)
 have H : (if a0 < 0 then (some (strOfNums (([(Int.tmod (wrap64 (a0 + 4294967296)) 256) % 256, (Int.tmod (wrap64 (Int.tdiv (wrap64 (a0 + 4294967296)) 256)) 256) % 256, (Int.tmod (wrap64 (Int.tdiv (wrap64 (a0 + 4294967296)) 65536)) 256) % 256, (Int.tmod (wrap64 (Int.tdiv (wrap64 (a0 + 4294967296)) 16777216)) 256) % 256] : List Int)))) else (some (strOfNums (([(Int.tmod a0 256) % 256, (Int.tmod (wrap64 (Int.tdiv a0 256)) 256) % 256, (Int.tmod (wrap64 (Int.tdiv a0 65536)) 256) % 256, (Int.tmod (wrap64 (Int.tdiv a0 16777216)) 256) % 256] : List Int))))) = some r := h
 clear h
 by_cases c2 : a0 < 0
 ·rw [if_pos c2] at H
  have c2b0 : decide (a0 < 0) = true := decide_eq_true c2
  clear c2
  obtain ⟨y213, hy213⟩ : ∃ y_ : List Int, y_ = (([(Int.tmod (wrap64 (a0 + 4294967296)) 256) % 256, (Int.tmod (wrap64 (Int.tdiv (wrap64 (a0 + 4294967296)) 256)) 256) % 256, (Int.tmod (wrap64 (Int.tdiv (wrap64 (a0 + 4294967296)) 65536)) 256) % 256, (Int.tmod (wrap64 (Int.tdiv (wrap64 (a0 + 4294967296)) 16777216)) 256) % 256] : List Int)) := ⟨_, rfl⟩
  replace H : (some (strOfNums y213)) = some r := by first | (rw [hy213]; with_reducible exact H) | (have H2_ := (Option.bind_some _ _).symm.trans H; rw [hy213]; with_reducible exact H2_) | (have H2_ := (Option.bind_some _ _).symm.trans H; with_reducible exact H2_) | with_reducible exact H | (rw [hy213]; exact H) | exact H
  have Ny213 := Aside0.mk hy213
  clear hy213
  obtain rfl := Option.some.inj H
  go_enter Try.func42, Try.ntmps42
  go_wp2_with (first | ((with_reducible refine gate_dst (N := 22) rfl ?_); refine Kd.R_lit (Kd.int .u8) _ 5 ?hg (N := 22) ?hd (xs := ([(Int.tmod (wrap64 (a0 + 4294967296)) 256) % 256, (Int.tmod (wrap64 (Int.tdiv (wrap64 (a0 + 4294967296)) 256)) 256) % 256, (Int.tmod (wrap64 (Int.tdiv (wrap64 (a0 + 4294967296)) 65536)) 256) % 256, (Int.tmod (wrap64 (Int.tdiv (wrap64 (a0 + 4294967296)) 16777216)) 256) % 256] : List Int)) (inner := [.int .u8 ((Int.tmod (wrap64 (a0 + 4294967296)) 256) % 256), .int .u8 ((Int.tmod (wrap64 (Int.tdiv (wrap64 (a0 + 4294967296)) 256)) 256) % 256), .int .u8 ((Int.tmod (wrap64 (Int.tdiv (wrap64 (a0 + 4294967296)) 65536)) 256) % 256), .int .u8 ((Int.tmod (wrap64 (Int.tdiv (wrap64 (a0 + 4294967296)) 16777216)) 256) % 256)]) (ok := fun _ => True) (okp := fun _ => True) ?hr ?hp (fun _ hk => hk) trivial (Below.refl _ _) (Nat.le_refl _) (by simp) ?_; (case hd => rfl); (case hg => rfl); (case hr => first | (go_simp; done) | (go_simp; rfl)); (case hp => exact (Reps.one (show Kd.M (Kd.int .u8) _ _ _ ((Int.tmod (wrap64 (a0 + 4294967296)) 256) % 256) [.int .u8 ((Int.tmod (wrap64 (a0 + 4294967296)) 256) % 256)] from rfl) (Reps.one (show Kd.M (Kd.int .u8) _ _ _ ((Int.tmod (wrap64 (Int.tdiv (wrap64 (a0 + 4294967296)) 256)) 256) % 256) [.int .u8 ((Int.tmod (wrap64 (Int.tdiv (wrap64 (a0 + 4294967296)) 256)) 256) % 256)] from rfl) (Reps.one (show Kd.M (Kd.int .u8) _ _ _ ((Int.tmod (wrap64 (Int.tdiv (wrap64 (a0 + 4294967296)) 65536)) 256) % 256) [.int .u8 ((Int.tmod (wrap64 (Int.tdiv (wrap64 (a0 + 4294967296)) 65536)) 256) % 256)] from rfl) (Reps.one (show Kd.M (Kd.int .u8) _ _ _ ((Int.tmod (wrap64 (Int.tdiv (wrap64 (a0 + 4294967296)) 16777216)) 256) % 256) [.int .u8 ((Int.tmod (wrap64 (Int.tdiv (wrap64 (a0 + 4294967296)) 16777216)) 256) % 256)] from rfl) (Reps.none _ _)))))); intro v214 w3 ho4 hb hg_ hnew_; clear hg_ hnew_; (first | rw [← Ny213.out] at ho4 | (simp only [Int.reduceToNat] at ho4; rw [← Ny213.out] at ho4)); have n0_ := Aside0.mk (Kd.R_lower ho4 (below_size (by repeat (first | (with_reducible first | exact HB.out | apply below_alloc | apply pw_below_drewN | apply below_drew1) | exact HB.out)))); have n1_ := Aside0.mk (below_step (by repeat (first | (with_reducible first | exact HB.out | apply below_alloc | apply pw_below_drewN | apply below_drew1) | exact HB.out)) hb); clear HB; have HO215 := n0_; have HB := n1_; clear n0_ n1_; clear hb ho4; have hcv5 := own_string (P := Try.prog) Try.underlying26 Try.underlying5 Try.underlying9 (Kd.own_of_R HO215.out)))
  go_ret
  exact ⟨by first | rfl | (simp [errW_none, errW_some] <;> rfl) | (simp [*, errW_none, errW_some] <;> rfl), by repeat (first | (with_reducible first | exact HB.out | apply below_alloc | apply pw_below_drewN | apply below_drew1) | exact HB.out)⟩
 ·rw [if_neg c2] at H
  have c2b0 : decide (a0 < 0) = false := decide_eq_false c2
  clear c2
  obtain ⟨y216, hy216⟩ : ∃ y_ : List Int, y_ = (([(Int.tmod a0 256) % 256, (Int.tmod (wrap64 (Int.tdiv a0 256)) 256) % 256, (Int.tmod (wrap64 (Int.tdiv a0 65536)) 256) % 256, (Int.tmod (wrap64 (Int.tdiv a0 16777216)) 256) % 256] : List Int)) := ⟨_, rfl⟩
  replace H : (some (strOfNums y216)) = some r := by first | (rw [hy216]; with_reducible exact H) | (have H2_ := (Option.bind_some _ _).symm.trans H; rw [hy216]; with_reducible exact H2_) | (have H2_ := (Option.bind_some _ _).symm.trans H; with_reducible exact H2_) | with_reducible exact H | (rw [hy216]; exact H) | exact H
  have Ny216 := Aside0.mk hy216
  clear hy216
  obtain rfl := Option.some.inj H
  go_enter Try.func42, Try.ntmps42
  go_wp2_with (first | ((with_reducible refine gate_dst (N := 22) rfl ?_); refine Kd.R_lit (Kd.int .u8) _ 5 ?hg (N := 22) ?hd (xs := ([(Int.tmod a0 256) % 256, (Int.tmod (wrap64 (Int.tdiv a0 256)) 256) % 256, (Int.tmod (wrap64 (Int.tdiv a0 65536)) 256) % 256, (Int.tmod (wrap64 (Int.tdiv a0 16777216)) 256) % 256] : List Int)) (inner := [.int .u8 ((Int.tmod a0 256) % 256), .int .u8 ((Int.tmod (wrap64 (Int.tdiv a0 256)) 256) % 256), .int .u8 ((Int.tmod (wrap64 (Int.tdiv a0 65536)) 256) % 256), .int .u8 ((Int.tmod (wrap64 (Int.tdiv a0 16777216)) 256) % 256)]) (ok := fun _ => True) (okp := fun _ => True) ?hr ?hp (fun _ hk => hk) trivial (Below.refl _ _) (Nat.le_refl _) (by simp) ?_; (case hd => rfl); (case hg => rfl); (case hr => first | (go_simp; done) | (go_simp; rfl)); (case hp => exact (Reps.one (show Kd.M (Kd.int .u8) _ _ _ ((Int.tmod a0 256) % 256) [.int .u8 ((Int.tmod a0 256) % 256)] from rfl) (Reps.one (show Kd.M (Kd.int .u8) _ _ _ ((Int.tmod (wrap64 (Int.tdiv a0 256)) 256) % 256) [.int .u8 ((Int.tmod (wrap64 (Int.tdiv a0 256)) 256) % 256)] from rfl) (Reps.one (show Kd.M (Kd.int .u8) _ _ _ ((Int.tmod (wrap64 (Int.tdiv a0 65536)) 256) % 256) [.int .u8 ((Int.tmod (wrap64 (Int.tdiv a0 65536)) 256) % 256)] from rfl) (Reps.one (show Kd.M (Kd.int .u8) _ _ _ ((Int.tmod (wrap64 (Int.tdiv a0 16777216)) 256) % 256) [.int .u8 ((Int.tmod (wrap64 (Int.tdiv a0 16777216)) 256) % 256)] from rfl) (Reps.none _ _)))))); intro v217 w6 ho7 hb hg_ hnew_; clear hg_ hnew_; (first | rw [← Ny216.out] at ho7 | (simp only [Int.reduceToNat] at ho7; rw [← Ny216.out] at ho7)); have n0_ := Aside0.mk (Kd.R_lower ho7 (below_size (by repeat (first | (with_reducible first | exact HB.out | apply below_alloc | apply pw_below_drewN | apply below_drew1) | exact HB.out)))); have n1_ := Aside0.mk (below_step (by repeat (first | (with_reducible first | exact HB.out | apply below_alloc | apply pw_below_drewN | apply below_drew1) | exact HB.out)) hb); clear HB; have HO218 := n0_; have HB := n1_; clear n0_ n1_; clear hb ho7; have hcv8 := own_string (P := Try.prog) Try.underlying26 Try.underlying5 Try.underlying9 (Kd.own_of_R HO218.out)))
  go_ret
  exact ⟨by first | rfl | (simp [errW_none, errW_some] <;> rfl) | (simp [*, errW_none, errW_some] <;> rfl), by repeat (first | (with_reducible first | exact HB.out | apply below_alloc | apply pw_below_drewN | apply below_drew1) | exact HB.out)⟩

end
end Go.Proofs.Ytgfpkhihdahjlab.QWire
