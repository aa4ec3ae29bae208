-- Printed by a program of this session's own (wip/gen), which turns the kit's printer; not one of the kit's printed texts.
import Derived.Test.YtdcojbamfchgiaaQChunkx0
namespace Go.Proofs.Ytdcojbamfchgiaa.QChunk
open Go.RowKit Go.Proofs.Ytdcojbamfchgiaa.Given Go.Proofs.Ytdcojbamfchgiaa.Right Go.Proofs.Ytdcojbamfchgiaa.RExpert Go.Proofs.Ytdcojbamfchgiaa.Export Go.Proofs.Ytdcojbamfchgiaa.Join Go.Proofs.YtdcojbamfchgiaaW.PrintWords Go.Proofs.YtdcojbamfchgiaaW.PrintLast Go.Proofs.YtdcojbamfchgiaaW.PrintMore
attribute [local go_sem] max2_int min2_int max_two min_two max_three min_three max_four min_four   -- for this text's walks alone
set_option linter.unusedVariables false
set_option linter.unusedSimpArgs false
noncomputable section

/-! ### chunk_Cut: function 13 -/
mutual
def chunk_Cut.j0 : Nat → ByteArray → Int → Bool → Option (List ByteArray × Bool)
  | 0, _, _, _ => none
  | k + 1, x0, x1, x13 => if x13 = true then (some (([] : List ByteArray), false)) else (chunk_Cut.l0 k x0 x1 ([] : List ByteArray))
def chunk_Cut.l0 : Nat → ByteArray → Int → List ByteArray → Option (List ByteArray × Bool)
  | 0, _, _, _ => none
  | k + 1, x0, x1, x6 => if (x0.size : Int) > 0 then (if 0 ≤ (mn x1 (x0.size : Int)) then (if (mn x1 (x0.size : Int)) ≤ (x0.size : Int) then (if x6.length < 8796093022208 then (chunk_Cut.l0 k (x0.extract ((mn x1 (x0.size : Int)) : Int).toNat x0.size) x1 (x6 ++ [x0.extract 0 ((mn x1 (x0.size : Int)) : Int).toNat])) else (none)) else (none)) else (none)) else (some (x6, true))
end
def chunk_Cut.f (k : Nat) (a0 : ByteArray) (a1 : Int) : Option (List ByteArray × Bool) := if a1 < 1 then (chunk_Cut.j0 k a0 a1 true) else (chunk_Cut.j0 k a0 a1 (decide (a1 > 64)))
theorem chunk_Cut.mono_l : ∀ k, (∀ y0 y1 y2, LeO (chunk_Cut.j0 k y0 y1 y2) (chunk_Cut.j0 (k + 1) y0 y1 y2)) ∧ (∀ y0 y1 y2, LeO (chunk_Cut.l0 k y0 y1 y2) (chunk_Cut.l0 (k + 1) y0 y1 y2))
  | 0 => ⟨fun _ _ _ r h => by simp [chunk_Cut.j0] at h, fun _ _ _ r h => by simp [chunk_Cut.l0] at h⟩
  | k + 1 => by
    obtain ⟨ih0, ih1⟩ := chunk_Cut.mono_l k
    refine ⟨?_, ?_⟩
    · intro y0 y1 y2
      unfold chunk_Cut.j0
      repeat' first
      | (with_reducible exact ih0 _ _ _)
      | (with_reducible exact ih1 _ _ _)
      | (with_reducible exact LeO.refl _)
      | (with_reducible exact LeO.none _)
      | (with_reducible refine LeO.ite ?_ ?_)
      | (with_reducible refine LeO.bind ?_ (fun _ => ?_))
      | exact ih0 _ _ _
      | exact ih1 _ _ _
      | exact LeO.none _
      | refine LeO.ite ?_ ?_
      | refine LeO.bind ?_ (fun _ => ?_)
    · intro y0 y1 y2
      unfold chunk_Cut.l0
      repeat' first
      | (with_reducible exact ih0 _ _ _)
      | (with_reducible exact ih1 _ _ _)
      | (with_reducible exact LeO.refl _)
      | (with_reducible exact LeO.none _)
      | (with_reducible refine LeO.ite ?_ ?_)
      | (with_reducible refine LeO.bind ?_ (fun _ => ?_))
      | exact ih0 _ _ _
      | exact ih1 _ _ _
      | exact LeO.none _
      | refine LeO.ite ?_ ?_
      | refine LeO.bind ?_ (fun _ => ?_)
theorem chunk_Cut.mono : ∀ a0 a1 k, LeO (chunk_Cut.f k a0 a1) (chunk_Cut.f (k + 1) a0 a1) := by
  intro a0 a1 k
  obtain ⟨ih0, ih1⟩ := chunk_Cut.mono_l k
  unfold chunk_Cut.f
  repeat' first
      | (with_reducible exact ih0 _ _ _)
      | (with_reducible exact ih1 _ _ _)
      | (with_reducible exact LeO.refl _)
      | (with_reducible exact LeO.none _)
      | (with_reducible refine LeO.ite ?_ ?_)
      | (with_reducible refine LeO.bind ?_ (fun _ => ?_))
      | exact ih0 _ _ _
      | exact ih1 _ _ _
      | exact LeO.none _
      | refine LeO.ite ?_ ?_
      | refine LeO.bind ?_ (fun _ => ?_)
set_option maxHeartbeats 8000000 in
set_option maxRecDepth 100000 in
theorem chunk_Cut.calls (k : Nat) (a0 : ByteArray) (a1 : Int) (r1 : List ByteArray) (r2 : Bool) (w : World) (h : chunk_Cut.f k a0 a1 = some (r1, r2)) :
    Calls Try.prog 13 #[.string a0, .int .i64 a1] w fun e w' => ∃ v0_ : Value, e = .returned (.tuple #[v0_, .bool r2]) ∧ Kd.R Kd.string 9 w' w.heap.size (fun _ => True) v0_ r1 ∧ Below w.heap.size w w' := by
  have HB := Aside0.mk (Below.refl w.heap.size w)
  have H : (if a1 < 1 then (chunk_Cut.j0 k a0 a1 true) else (chunk_Cut.j0 k a0 a1 (decide (a1 > 64)))) = some (r1, r2) := h
  clear h
  have HC3 := Aside0.mk H
  clear H
  go_enter Try.func13, Try.ntmps13
  go_upto_region 1 with (fail)
  go_cut [13] (fun v13 wc => ∃ (kq : Nat) (x13_2 : Bool), v13 = .bool x13_2 ∧ Aside0 (chunk_Cut.j0 kq a0 a1 x13_2 = some (r1, r2)) ∧ Aside0 (kq ≤ k) ∧ Aside0 (Below w.heap.size w wc))
  case first =>
    have H := HC3.out
    clear HC3
    by_cases c4 : a1 < 1
    · rw [if_pos c4] at H
      have c4b0 : decide (a1 < 1) = true := decide_eq_true c4
      clear c4
      (first | rw [c4b0] | (simp only [i64_w, i32_w]; rw [c4b0]) | skip)
      have H' := Aside0.mk H
      clear H
      go_wp2
      go_meet
      case rel => exact ⟨_, (true), (by first | rfl | (simp; done) | (simp [*]; done)), H', ⟨by first | omega | exact Nat.le_refl _⟩, ⟨by repeat (first | (with_reducible first | exact HB.out | apply below_alloc | apply pw_below_drewN | apply below_drew1) | exact HB.out)⟩⟩
    · rw [if_neg c4] at H
      have c4b0 : decide (a1 < 1) = false := decide_eq_false c4
      clear c4
      (first | rw [c4b0] | (simp only [i64_w, i32_w]; rw [c4b0]) | skip)
      have H' := Aside0.mk H
      clear H
      go_wp2
      go_meet
      case rel => exact ⟨_, (decide (a1 > 64)), (by first | rfl | (simp; done) | (simp [*]; done)), H', ⟨by first | omega | exact Nat.le_refl _⟩, ⟨by repeat (first | (with_reducible first | exact HB.out | apply below_alloc | apply pw_below_drewN | apply below_drew1) | exact HB.out)⟩⟩
  case rest =>
    clear HC3
    try clear c1
    try clear p2
    try clear c4
    try clear c4b0
    obtain ⟨kq, x13_2, rfl, HA, HJ2, HB⟩ := hcut
    cases kq with
    | zero => exact absurd HA.out (by simp [chunk_Cut.j0])
    | succ kj2 =>
      have H := HA.out
      clear HA
      simp only [chunk_Cut.j0] at H
      by_cases c5 : x13_2 = true
      · subst c5
        have H1 : (some (([] : List ByteArray), false)) = some (r1, r2) := by rw [if_pos rfl] at H; exact H
        clear H
        have H := H1
        clear H1
        simp only [Option.some.injEq, Prod.mk.injEq] at H
        obtain ⟨rfl, rfl⟩ := H
        go_wp2
        go_ret2
        exact ⟨_, by first | rfl | (simp [errW_none, errW_some] <;> rfl) | (simp [*, errW_none, errW_some] <;> rfl), by first | exact Kd.R_nil _ _ _ _ _ | exact Kd.N_nil _ _ _ _ _ | exact Kd.V_nil _ _ _ _ _ | exact Kd.Q_nil _ _ _ _ _ | exact Kd.S_nil _ _ _ _ _, by repeat (first | (with_reducible first | exact HB.out | apply below_alloc | apply pw_below_drewN | apply below_drew1) | exact HB.out)⟩
      · replace c5 := Bool.eq_false_iff.mpr c5
        subst c5
        have H1 : (chunk_Cut.l0 kj2 a0 a1 ([] : List ByteArray)) = some (r1, r2) := by rw [if_neg (show ¬ (false = true) by decide)] at H; exact H
        clear H
        have H := H1
        clear H1
        have H' := Aside0.mk H
        clear H
        go_wp2
        go_loopg [0, 6] kj2 (fun kq v0 v6 w' => ∃ (x0_2 : ByteArray) (x6_2 : List ByteArray), v0 = .string x0_2 ∧ Aside0 (chunk_Cut.l0 kq x0_2 a1 x6_2 = some (r1, r2)) ∧ Aside0 (kq ≤ kj2) ∧ Aside0 (Kd.R Kd.string 9 w' w.heap.size (fun _ => True) v6 x6_2) ∧ Aside0 (Below w.heap.size w w'))
        case atStart => exact ⟨(a0), (([] : List ByteArray)), (by first | rfl | (simp; done) | (simp [*]; done)), H', ⟨Nat.le_refl _⟩, ⟨by first | exact Kd.R_nil _ _ _ _ _ | exact Kd.N_nil _ _ _ _ _ | exact Kd.V_nil _ _ _ _ _ | exact Kd.Q_nil _ _ _ _ _ | exact Kd.S_nil _ _ _ _ _⟩, ⟨by repeat (first | (with_reducible first | exact HB.out | apply below_alloc | apply pw_below_drewN | apply below_drew1) | exact HB.out)⟩⟩
        case round =>
          clear H'
          try clear c1
          try clear p2
          try clear c4
          try clear c4b0
          try clear c5
          try clear p2
          obtain ⟨x0_2, x6_2, rfl, HA, HK2, HO_6, HB⟩ := hrel
          cases gk with
          | zero => exact absurd HA.out (by simp [chunk_Cut.l0])
          | succ k2 =>
            have H := HA.out
            clear HA
            simp only [chunk_Cut.l0] at H
            by_cases c6 : (x0_2.size : Int) > 0
            · rw [if_pos c6] at H
              have c6b0 : decide (0 < (x0_2.size : Int)) = true := decide_eq_true c6
              have c6b1 : decide (0 < x0_2.size) = true := decide_eq_true (by omega)
              clear c6
              obtain ⟨ji7, hji7⟩ : ∃ j_ : Int, (mn a1 (x0_2.size : Int)) = j_ := ⟨_, rfl⟩
              replace H : (if 0 ≤ (ji7) then (if (ji7) ≤ (x0_2.size : Int) then (if x6_2.length < 8796093022208 then (chunk_Cut.l0 k2 (x0_2.extract ((ji7) : Int).toNat x0_2.size) a1 (x6_2 ++ [x0_2.extract 0 ((ji7) : Int).toNat])) else (none)) else (none)) else (none)) = some (r1, r2) := by first | (rw [hji7] at H; exact H) | (simp only [hji7] at H ⊢; exact H)
              have hji7_ : (if (x0_2.size : Int) < a1 then (x0_2.size : Int) else a1) = ji7 := hji7
              by_cases c8 : 0 ≤ (ji7)
              · rw [if_pos c8] at H
                have c8b0 := eq_true c8
                have c8b1 : decide (0 ≤ (ji7)) = true := decide_eq_true c8
                clear c8
                by_cases c9 : (ji7) ≤ (x0_2.size : Int)
                · rw [if_pos c9] at H
                  have c9b0 := eq_true c9
                  have c9b1 : decide ((ji7) ≤ (x0_2.size : Int)) = true := decide_eq_true c9
                  clear c9
                  by_cases c10 : x6_2.length < 8796093022208
                  · rw [if_pos c10] at H
                    have LMc10 := Aside0.mk c10
                    clear c10
                    obtain ⟨y102, hy102⟩ : ∃ y_ : List ByteArray, y_ = (x6_2 ++ [x0_2.extract 0 ((ji7) : Int).toNat]) := ⟨_, rfl⟩
                    replace H : (chunk_Cut.l0 k2 (x0_2.extract ((ji7) : Int).toNat x0_2.size) a1 y102) = some (r1, r2) := by first | (rw [hy102]; with_reducible exact H) | (have H2_ := (Option.bind_some _ _).symm.trans H; rw [hy102]; with_reducible exact H2_) | (have H2_ := (Option.bind_some _ _).symm.trans H; with_reducible exact H2_) | with_reducible exact H | (rw [hy102]; exact H) | exact H
                    have Ny102 := Aside0.mk hy102
                    clear hy102
                    have c11b0 := eq_true (of_decide_eq_true (by first | (with_reducible assumption) | assumption) : 0 ≤ (ji7))
                    have c12b0 := eq_true (of_decide_eq_true (by first | (with_reducible assumption) | assumption) : (ji7) ≤ (x0_2.size : Int))
                    have H' := Aside0.mk H
                    clear H
                    go_wp2_with (first | ((with_reducible refine gate_builtin (b := .append) (xs := #[.tmp 21, .tmp 25]) rfl ?_); at_builtin; refine Kd.R_append Kd.string (w0 := w) w.heap.size rfl (.tmp 21) (.tmp 25) 32 9 (.string ⟨#[]⟩) 16 rfl Try.underlying32 info9 rfl (by decide) (by omega) u6 x6_2 (x0_2.extract 0 ((ji7) : Int).toNat) [.string (x0_2.extract 0 ((ji7) : Int).toNat)] (fun _ => True) (fun _ => False) rfl rfl ?aP (fun _ hk => hk.elim) ?aF ?aO ?aB ?aS ?aL ?_; (case aP => exact rfl); (case aB => exact (by repeat (first | (with_reducible first | exact HB.out | apply below_alloc | apply pw_below_drewN | apply below_drew1) | exact HB.out))); (case aF => exact (fun _ _ => trivial)); (case aO => exact (by (with_reducible repeat (first | apply Kd.R_alloc | apply Kd.R_drewN | apply Kd.R_drew)); exact HO_6.out)); (case aS => exact (below_size (by repeat (first | (with_reducible first | exact HB.out | apply below_alloc | apply pw_below_drewN | apply below_drew1) | exact HB.out)))); (case aL => have := LMc10.out; omega); intro v103 w13 ho hb hg hat; rw [← Ny102.out] at ho; have n0_ := Aside0.mk (hb); have n1_ := Aside0.mk (ho); clear HB; clear HO_6; have HB := n0_; have HO104 := n1_; clear n0_ n1_; clear ho hb hg hat))
                    go_roundg k2
                    case measure => have := HJ2.out; have := HK2.out; omega
                    case rel => exact ⟨(x0_2.extract ((ji7) : Int).toNat x0_2.size), (y102), (by first | rfl | (simp; done) | (simp only [← hji7] <;> (first | rfl | simp)) | (simp [*]; done)), H', ⟨by have := HJ2.out; have := HK2.out; omega⟩, ⟨by (with_reducible repeat (first | apply Kd.R_alloc | apply Kd.R_drewN | apply Kd.R_drew)); exact HO104.out⟩, ⟨by repeat (first | (with_reducible first | exact HB.out | apply below_alloc | apply pw_below_drewN | apply below_drew1) | exact HB.out)⟩⟩
                  · rw [if_neg c10] at H
                    exact absurd H (by simp)
                · rw [if_neg c9] at H
                  exact absurd H (by simp)
              · rw [if_neg c8] at H
                exact absurd H (by simp)
            · rw [if_neg c6] at H
              have c6b0 : decide (0 < (x0_2.size : Int)) = false := decide_eq_false c6
              have c6b1 : decide (0 < x0_2.size) = false := decide_eq_false (by omega)
              clear c6
              simp only [Option.some.injEq, Prod.mk.injEq] at H
              obtain ⟨rfl, rfl⟩ := H
              go_wp2
              go_ret2
              exact ⟨_, by first | rfl | (simp [errW_none, errW_some] <;> rfl) | (simp [*, errW_none, errW_some] <;> rfl), by (with_reducible repeat (first | apply Kd.R_alloc | apply Kd.R_drewN | apply Kd.R_drew)); exact HO_6.out, by repeat (first | (with_reducible first | exact HB.out | apply below_alloc | apply pw_below_drewN | apply below_drew1) | exact HB.out)⟩

end
end Go.Proofs.Ytdcojbamfchgiaa.QChunk
