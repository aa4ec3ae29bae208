-- Printed by a program of this session's own (wip/gen), which turns the kit's printer; not one of the kit's printed texts.
import Derived.Test.YtdcojbamfchgiaaQChunkx0
import Derived.Test.YtdcojbamfchgiaaQChunkx8
import Derived.Test.YtdcojbamfchgiaaQChunkx16
namespace Go.Proofs.Ytdcojbamfchgiaa.QChunk
open Go.RowKit Go.Proofs.Ytdcojbamfchgiaa.Given Go.Proofs.Ytdcojbamfchgiaa.Right Go.Proofs.Ytdcojbamfchgiaa.RExpert Go.Proofs.Ytdcojbamfchgiaa.Export Go.Proofs.Ytdcojbamfchgiaa.Join Go.Proofs.YtdcojbamfchgiaaW.PrintWords Go.Proofs.YtdcojbamfchgiaaW.PrintLast Go.Proofs.YtdcojbamfchgiaaW.PrintMore
attribute [local go_sem] max2_int min2_int max_two min_two max_three min_three max_four min_four   -- for this text's walks alone
set_option linter.unusedVariables false
set_option linter.unusedSimpArgs false
noncomputable section

/-! ### switchboardlaw16_ChunkTwice: function 4 -/
mutual
def switchboardlaw16_ChunkTwice.l0 : Nat → ByteArray → Int → Bool → List ByteArray → Bool → List ByteArray → List ByteArray → Int → Int → Option (Bool)
  | 0, _, _, _, _, _, _, _, _, _ => none
  | k + 1, x0, x7, x10, x11, x12, x13, x45, x46, x47 => if x47 < x46 then (if 0 ≤ x47 then (if x47 < (x45.length : Int) then ((chunk_Cut.f k (rdOf ByteArray.empty x45 x47) x7).bind fun bt191 => (if bt191.2 = true then (if x13.length + bt191.1.length < 8796093022208 then (switchboardlaw16_ChunkTwice.l0 k x0 x7 x10 x11 x12 (x13 ++ bt191.1) x45 x46 (wrap64 (x47 + 1))) else (none)) else (some false))) else (none)) else (none)) else (if x10 = true then (if x12 = true then (switchboardlaw16_ChunkTwice.j1 k x0 x11 x13 ((x13.length : Int) != (x11.length : Int))) else (switchboardlaw16_ChunkTwice.j1 k x0 x11 x13 true)) else (switchboardlaw16_ChunkTwice.j1 k x0 x11 x13 true))
def switchboardlaw16_ChunkTwice.j1 : Nat → ByteArray → List ByteArray → List ByteArray → Bool → Option (Bool)
  | 0, _, _, _, _ => none
  | k + 1, x0, x11, x13, x75 => if x75 = true then (some false) else (switchboardlaw16_ChunkTwice.l1 k x0 x11 x13 (x13.length : Int) 0)
def switchboardlaw16_ChunkTwice.l1 : Nat → ByteArray → List ByteArray → List ByteArray → Int → Int → Option (Bool)
  | 0, _, _, _, _, _ => none
  | k + 1, x0, x11, x13, x77, x78 => if x78 < x77 then (if 0 ≤ x78 then (if x78 < (x13.length : Int) then (if x78 < (x11.length : Int) then (if (rdOf ByteArray.empty x13 x78).toList = (rdOf ByteArray.empty x11 x78).toList then (switchboardlaw16_ChunkTwice.l1 k x0 x11 x13 x77 (wrap64 (x78 + 1))) else (some false)) else (none)) else (none)) else (none)) else ((chunk_Join.f x13).bind fun t200 => (if t200.toList = x0.toList then ((switchboardlaw16_awake.f k).bind fun t201 => (some t201)) else (some false)))
end
def switchboardlaw16_ChunkTwice.f (k : Nat) (a0 : ByteArray) (a1 : Int) (a2 : Int) : Option (Bool) := if (a0.size : Int) > 600 then ((switchboardlaw16_awake.f k).bind fun t181 => (some t181)) else ((chunk_Cut.f k a0 (wrap64 ((wrap64 (1 + (wrap64 (Int.tmod a1 8)))) * (wrap64 (1 + (wrap64 (Int.tmod a2 8))))))).bind fun bt182 => ((chunk_Cut.f k a0 (wrap64 (1 + (wrap64 (Int.tmod a1 8))))).bind fun bt186 => (switchboardlaw16_ChunkTwice.l0 k a0 (wrap64 (1 + (wrap64 (Int.tmod a1 8)))) bt182.2 bt186.1 bt186.2 ([] : List ByteArray) bt182.1 (bt182.1.length : Int) 0)))
theorem switchboardlaw16_ChunkTwice.mono_l : ∀ k, (∀ y0 y1 y2 y3 y4 y5 y6 y7 y8, LeO (switchboardlaw16_ChunkTwice.l0 k y0 y1 y2 y3 y4 y5 y6 y7 y8) (switchboardlaw16_ChunkTwice.l0 (k + 1) y0 y1 y2 y3 y4 y5 y6 y7 y8)) ∧ (∀ y0 y1 y2 y3, LeO (switchboardlaw16_ChunkTwice.j1 k y0 y1 y2 y3) (switchboardlaw16_ChunkTwice.j1 (k + 1) y0 y1 y2 y3)) ∧ (∀ y0 y1 y2 y3 y4, LeO (switchboardlaw16_ChunkTwice.l1 k y0 y1 y2 y3 y4) (switchboardlaw16_ChunkTwice.l1 (k + 1) y0 y1 y2 y3 y4))
  | 0 => ⟨fun _ _ _ _ _ _ _ _ _ r h => by simp [switchboardlaw16_ChunkTwice.l0] at h, fun _ _ _ _ r h => by simp [switchboardlaw16_ChunkTwice.j1] at h, fun _ _ _ _ _ r h => by simp [switchboardlaw16_ChunkTwice.l1] at h⟩
  | k + 1 => by
    obtain ⟨ih0, ih1, ih2⟩ := switchboardlaw16_ChunkTwice.mono_l k
    refine ⟨?_, ?_, ?_⟩
    · intro y0 y1 y2 y3 y4 y5 y6 y7 y8
      unfold switchboardlaw16_ChunkTwice.l0
      repeat' first
      | (with_reducible exact ih0 _ _ _ _ _ _ _ _ _)
      | (with_reducible exact ih1 _ _ _ _)
      | (with_reducible exact ih2 _ _ _ _ _)
      | (with_reducible exact chunk_Cut.mono _ _ _)
      | (with_reducible exact switchboardlaw16_awake.mono _)
      | (with_reducible exact LeO.refl _)
      | (with_reducible exact LeO.none _)
      | (with_reducible refine LeO.ite ?_ ?_)
      | (with_reducible refine LeO.bind ?_ (fun _ => ?_))
      | exact ih0 _ _ _ _ _ _ _ _ _
      | exact ih1 _ _ _ _
      | exact ih2 _ _ _ _ _
      | exact chunk_Cut.mono _ _ _
      | exact switchboardlaw16_awake.mono _
      | exact LeO.none _
      | refine LeO.ite ?_ ?_
      | refine LeO.bind ?_ (fun _ => ?_)
    · intro y0 y1 y2 y3
      unfold switchboardlaw16_ChunkTwice.j1
      repeat' first
      | (with_reducible exact ih0 _ _ _ _ _ _ _ _ _)
      | (with_reducible exact ih1 _ _ _ _)
      | (with_reducible exact ih2 _ _ _ _ _)
      | (with_reducible exact chunk_Cut.mono _ _ _)
      | (with_reducible exact switchboardlaw16_awake.mono _)
      | (with_reducible exact LeO.refl _)
      | (with_reducible exact LeO.none _)
      | (with_reducible refine LeO.ite ?_ ?_)
      | (with_reducible refine LeO.bind ?_ (fun _ => ?_))
      | exact ih0 _ _ _ _ _ _ _ _ _
      | exact ih1 _ _ _ _
      | exact ih2 _ _ _ _ _
      | exact chunk_Cut.mono _ _ _
      | exact switchboardlaw16_awake.mono _
      | exact LeO.none _
      | refine LeO.ite ?_ ?_
      | refine LeO.bind ?_ (fun _ => ?_)
    · intro y0 y1 y2 y3 y4
      unfold switchboardlaw16_ChunkTwice.l1
      repeat' first
      | (with_reducible exact ih0 _ _ _ _ _ _ _ _ _)
      | (with_reducible exact ih1 _ _ _ _)
      | (with_reducible exact ih2 _ _ _ _ _)
      | (with_reducible exact chunk_Cut.mono _ _ _)
      | (with_reducible exact switchboardlaw16_awake.mono _)
      | (with_reducible exact LeO.refl _)
      | (with_reducible exact LeO.none _)
      | (with_reducible refine LeO.ite ?_ ?_)
      | (with_reducible refine LeO.bind ?_ (fun _ => ?_))
      | exact ih0 _ _ _ _ _ _ _ _ _
      | exact ih1 _ _ _ _
      | exact ih2 _ _ _ _ _
      | exact chunk_Cut.mono _ _ _
      | exact switchboardlaw16_awake.mono _
      | exact LeO.none _
      | refine LeO.ite ?_ ?_
      | refine LeO.bind ?_ (fun _ => ?_)
theorem switchboardlaw16_ChunkTwice.mono : ∀ a0 a1 a2 k, LeO (switchboardlaw16_ChunkTwice.f k a0 a1 a2) (switchboardlaw16_ChunkTwice.f (k + 1) a0 a1 a2) := by
  intro a0 a1 a2 k
  obtain ⟨ih0, ih1, ih2⟩ := switchboardlaw16_ChunkTwice.mono_l k
  unfold switchboardlaw16_ChunkTwice.f
  repeat' first
      | (with_reducible exact ih0 _ _ _ _ _ _ _ _ _)
      | (with_reducible exact ih1 _ _ _ _)
      | (with_reducible exact ih2 _ _ _ _ _)
      | (with_reducible exact chunk_Cut.mono _ _ _)
      | (with_reducible exact switchboardlaw16_awake.mono _)
      | (with_reducible exact LeO.refl _)
      | (with_reducible exact LeO.none _)
      | (with_reducible refine LeO.ite ?_ ?_)
      | (with_reducible refine LeO.bind ?_ (fun _ => ?_))
      | exact ih0 _ _ _ _ _ _ _ _ _
      | exact ih1 _ _ _ _
      | exact ih2 _ _ _ _ _
      | exact chunk_Cut.mono _ _ _
      | exact switchboardlaw16_awake.mono _
      | exact LeO.none _
      | refine LeO.ite ?_ ?_
      | refine LeO.bind ?_ (fun _ => ?_)
set_option maxHeartbeats 8000000 in
set_option maxRecDepth 100000 in
theorem switchboardlaw16_ChunkTwice.calls (k : Nat) (a0 : ByteArray) (a1 : Int) (a2 : Int) (r : Bool) (w : World) (h : switchboardlaw16_ChunkTwice.f k a0 a1 a2 = some r) :
    Calls Try.prog 4 #[.string a0, .int .u8 a1, .int .u8 a2] w fun e w' => e = .returned (.bool r) ∧ Below w.heap.size w w' := by
  have HB := Aside0.mk (Below.refl w.heap.size w)
  have H : (if (a0.size : Int) > 600 then ((switchboardlaw16_awake.f k).bind fun t181 => (some t181)) else ((chunk_Cut.f k a0 (wrap64 ((wrap64 (1 + (wrap64 (Int.tmod a1 8)))) * (wrap64 (1 + (wrap64 (Int.tmod a2 8))))))).bind fun bt182 => ((chunk_Cut.f k a0 (wrap64 (1 + (wrap64 (Int.tmod a1 8))))).bind fun bt186 => (switchboardlaw16_ChunkTwice.l0 k a0 (wrap64 (1 + (wrap64 (Int.tmod a1 8)))) bt182.2 bt186.1 bt186.2 ([] : List ByteArray) bt182.1 (bt182.1.length : Int) 0)))) = some r := h
  clear h
  by_cases c4 : (a0.size : Int) > 600
  · rw [if_pos c4] at H
    have c4b0 : decide (600 < (a0.size : Int)) = true := decide_eq_true c4
    have c4b1 : decide (600 < a0.size) = true := decide_eq_true (by omega)
    clear c4
    replace H := Option.bind_eq_some_iff.mp H
    obtain ⟨t181, A50, H⟩ := H
    replace H : (some t181) = some r := H
    have A5 := Aside0.mk A50
    clear A50
    obtain rfl := Option.some.inj H
    go_enter Try.func4, Try.ntmps4
    go_wp2_with (first | (go_at_call 10; (with_reducible refine (switchboardlaw16_awake.calls k  t181 _ A5.out).mono ?_); rintro e w6 ⟨rfl, hb⟩; have n0_ := Aside0.mk (below_step (by repeat (first | (with_reducible first | exact HB.out | apply below_alloc | apply pw_below_drewN | apply below_drew1) | exact HB.out)) hb); clear HB; have HB := n0_; clear n0_; (try clear hb); (try clear hb2); (try clear hk); (try clear hi)))
    repeat (go_quiet (first | (go_at_call 10; (with_reducible refine (switchboardlaw16_awake.calls k  t181 _ A5.out).mono ?_); rintro e w6 ⟨rfl, hb⟩; have n0_ := Aside0.mk (below_step (by repeat (first | (with_reducible first | exact HB.out | apply below_alloc | apply pw_below_drewN | apply below_drew1) | exact HB.out)) hb); clear HB; have HB := n0_; clear n0_; (try clear hb); (try clear hb2); (try clear hk); (try clear hi))); try go_wp2_with (first | (go_at_call 10; (with_reducible refine (switchboardlaw16_awake.calls k  t181 _ A5.out).mono ?_); rintro e w6 ⟨rfl, hb⟩; have n0_ := Aside0.mk (below_step (by repeat (first | (with_reducible first | exact HB.out | apply below_alloc | apply pw_below_drewN | apply below_drew1) | exact HB.out)) hb); clear HB; have HB := n0_; clear n0_; (try clear hb); (try clear hb2); (try clear hk); (try clear hi))))
    go_ret
    exact ⟨by first | rfl | (simp [errW_none, errW_some] <;> rfl) | (simp [*, errW_none, errW_some] <;> rfl), by repeat (first | (with_reducible first | exact HB.out | apply below_alloc | apply pw_below_drewN | apply below_drew1) | exact HB.out)⟩
  · rw [if_neg c4] at H
    have c4b0 : decide (600 < (a0.size : Int)) = false := decide_eq_false c4
    have c4b1 : decide (600 < a0.size) = false := decide_eq_false (by omega)
    clear c4
    replace H := Option.bind_eq_some_iff.mp H
    obtain ⟨⟨t182, t183⟩, A70, H⟩ := H
    replace H : ((chunk_Cut.f k a0 (wrap64 (1 + (wrap64 (Int.tmod a1 8))))).bind fun bt186 => (switchboardlaw16_ChunkTwice.l0 k a0 (wrap64 (1 + (wrap64 (Int.tmod a1 8)))) t183 bt186.1 bt186.2 ([] : List ByteArray) t182 (t182.length : Int) 0)) = some r := H
    have A7 := Aside0.mk A70
    clear A70
    replace H := Option.bind_eq_some_iff.mp H
    obtain ⟨⟨t186, t187⟩, A80, H⟩ := H
    replace H : (switchboardlaw16_ChunkTwice.l0 k a0 (wrap64 (1 + (wrap64 (Int.tmod a1 8)))) t183 t186 t187 ([] : List ByteArray) t182 (t182.length : Int) 0) = some r := H
    have A8 := Aside0.mk A80
    clear A80
    have H' := Aside0.mk H
    clear H
    go_enter Try.func4, Try.ntmps4
    go_wp2_with (first | (go_at_call 13; (with_reducible refine (chunk_Cut.calls k a0 (wrap64 ((wrap64 (1 + (wrap64 (Int.tmod a1 8)))) * (wrap64 (1 + (wrap64 (Int.tmod a2 8)))))) t182 t183 _ A7.out).mono ?_); rintro e w9 ⟨v184, rfl, ho0, hb⟩; have n0_ := Aside0.mk (Kd.R_lower ho0 (below_size (by repeat (first | (with_reducible first | exact HB.out | apply below_alloc | apply pw_below_drewN | apply below_drew1) | exact HB.out)))); have n1_ := Aside0.mk (below_step (by repeat (first | (with_reducible first | exact HB.out | apply below_alloc | apply pw_below_drewN | apply below_drew1) | exact HB.out)) hb); clear HB; have HO185 := n0_; have HB := n1_; clear n0_ n1_; (try clear hb); (try clear hb2); (try clear hk); (try clear hi); (try clear ho0)) | (go_at_call 13; (with_reducible refine (chunk_Cut.calls k a0 (wrap64 (1 + (wrap64 (Int.tmod a1 8)))) t186 t187 _ A8.out).mono ?_); rintro e w10 ⟨v188, rfl, ho0, hb⟩; have n0_ := Aside0.mk (Kd.R_elder' (by (with_reducible repeat (first | apply Kd.R_alloc | apply Kd.R_drewN | apply Kd.R_drew)); exact HO185.out) (Kd.R_base ho0) hb); have n1_ := Aside0.mk (Kd.R_lower (Kd.R_new' ho0 (Kd.R_lt (by (with_reducible repeat (first | apply Kd.R_alloc | apply Kd.R_drewN | apply Kd.R_drew)); exact HO185.out))) (below_size (by repeat (first | (with_reducible first | exact HB.out | apply below_alloc | apply pw_below_drewN | apply below_drew1) | exact HB.out)))); have n2_ := Aside0.mk (below_step (by repeat (first | (with_reducible first | exact HB.out | apply below_alloc | apply pw_below_drewN | apply below_drew1) | exact HB.out)) hb); clear HO185; clear HB; have HO185 := n0_; have HO189 := n1_; have HB := n2_; clear n0_ n1_ n2_; (try clear hb); (try clear hb2); (try clear hk); (try clear hi); (try clear ho0); obtain ⟨Ao11, co11, eo11⟩ := Kd.R_slice HO185.out; subst eo11))
    repeat (go_quiet (first | (go_at_call 13; (with_reducible refine (chunk_Cut.calls k a0 (wrap64 ((wrap64 (1 + (wrap64 (Int.tmod a1 8)))) * (wrap64 (1 + (wrap64 (Int.tmod a2 8)))))) t182 t183 _ A7.out).mono ?_); rintro e w9 ⟨v184, rfl, ho0, hb⟩; have n0_ := Aside0.mk (Kd.R_lower ho0 (below_size (by repeat (first | (with_reducible first | exact HB.out | apply below_alloc | apply pw_below_drewN | apply below_drew1) | exact HB.out)))); have n1_ := Aside0.mk (below_step (by repeat (first | (with_reducible first | exact HB.out | apply below_alloc | apply pw_below_drewN | apply below_drew1) | exact HB.out)) hb); clear HB; have HO185 := n0_; have HB := n1_; clear n0_ n1_; (try clear hb); (try clear hb2); (try clear hk); (try clear hi); (try clear ho0)) | (go_at_call 13; (with_reducible refine (chunk_Cut.calls k a0 (wrap64 (1 + (wrap64 (Int.tmod a1 8)))) t186 t187 _ A8.out).mono ?_); rintro e w10 ⟨v188, rfl, ho0, hb⟩; have n0_ := Aside0.mk (Kd.R_elder' (by (with_reducible repeat (first | apply Kd.R_alloc | apply Kd.R_drewN | apply Kd.R_drew)); exact HO185.out) (Kd.R_base ho0) hb); have n1_ := Aside0.mk (Kd.R_lower (Kd.R_new' ho0 (Kd.R_lt (by (with_reducible repeat (first | apply Kd.R_alloc | apply Kd.R_drewN | apply Kd.R_drew)); exact HO185.out))) (below_size (by repeat (first | (with_reducible first | exact HB.out | apply below_alloc | apply pw_below_drewN | apply below_drew1) | exact HB.out)))); have n2_ := Aside0.mk (below_step (by repeat (first | (with_reducible first | exact HB.out | apply below_alloc | apply pw_below_drewN | apply below_drew1) | exact HB.out)) hb); clear HO185; clear HB; have HO185 := n0_; have HO189 := n1_; have HB := n2_; clear n0_ n1_ n2_; (try clear hb); (try clear hb2); (try clear hk); (try clear hi); (try clear ho0); obtain ⟨Ao11, co11, eo11⟩ := Kd.R_slice HO185.out; subst eo11)); try go_wp2_with (first | (go_at_call 13; (with_reducible refine (chunk_Cut.calls k a0 (wrap64 ((wrap64 (1 + (wrap64 (Int.tmod a1 8)))) * (wrap64 (1 + (wrap64 (Int.tmod a2 8)))))) t182 t183 _ A7.out).mono ?_); rintro e w9 ⟨v184, rfl, ho0, hb⟩; have n0_ := Aside0.mk (Kd.R_lower ho0 (below_size (by repeat (first | (with_reducible first | exact HB.out | apply below_alloc | apply pw_below_drewN | apply below_drew1) | exact HB.out)))); have n1_ := Aside0.mk (below_step (by repeat (first | (with_reducible first | exact HB.out | apply below_alloc | apply pw_below_drewN | apply below_drew1) | exact HB.out)) hb); clear HB; have HO185 := n0_; have HB := n1_; clear n0_ n1_; (try clear hb); (try clear hb2); (try clear hk); (try clear hi); (try clear ho0)) | (go_at_call 13; (with_reducible refine (chunk_Cut.calls k a0 (wrap64 (1 + (wrap64 (Int.tmod a1 8)))) t186 t187 _ A8.out).mono ?_); rintro e w10 ⟨v188, rfl, ho0, hb⟩; have n0_ := Aside0.mk (Kd.R_elder' (by (with_reducible repeat (first | apply Kd.R_alloc | apply Kd.R_drewN | apply Kd.R_drew)); exact HO185.out) (Kd.R_base ho0) hb); have n1_ := Aside0.mk (Kd.R_lower (Kd.R_new' ho0 (Kd.R_lt (by (with_reducible repeat (first | apply Kd.R_alloc | apply Kd.R_drewN | apply Kd.R_drew)); exact HO185.out))) (below_size (by repeat (first | (with_reducible first | exact HB.out | apply below_alloc | apply pw_below_drewN | apply below_drew1) | exact HB.out)))); have n2_ := Aside0.mk (below_step (by repeat (first | (with_reducible first | exact HB.out | apply below_alloc | apply pw_below_drewN | apply below_drew1) | exact HB.out)) hb); clear HO185; clear HB; have HO185 := n0_; have HO189 := n1_; have HB := n2_; clear n0_ n1_ n2_; (try clear hb); (try clear hb2); (try clear hk); (try clear hi); (try clear ho0); obtain ⟨Ao11, co11, eo11⟩ := Kd.R_slice HO185.out; subst eo11)))
    go_loopg [13, 47] k (fun kq v13 v47 w' => ∃ (x13_1 : List ByteArray) (x47_1 : Int), v47 = .int .i64 x47_1 ∧ Aside0 (switchboardlaw16_ChunkTwice.l0 kq a0 (wrap64 (1 + (wrap64 (Int.tmod a1 8)))) t183 t186 t187 x13_1 t182 (t182.length : Int) x47_1 = some r) ∧ Aside0 (kq ≤ k) ∧ Aside0 (Kd.R Kd.string 9 w' w.heap.size (fun k_ => some k_ ≠ (v13 : Value).ownBlock ∧ some k_ ≠ ((.slice Ao11 t182.length co11) : Value).ownBlock) v188 t186) ∧ Aside0 (Kd.R Kd.string 9 w' w.heap.size (fun k_ => some k_ ≠ (v188 : Value).ownBlock ∧ some k_ ≠ ((.slice Ao11 t182.length co11) : Value).ownBlock) v13 x13_1) ∧ Aside0 (Kd.R Kd.string 9 w' w.heap.size (fun k_ => some k_ ≠ (v188 : Value).ownBlock ∧ some k_ ≠ (v13 : Value).ownBlock) (.slice Ao11 t182.length co11) t182) ∧ Aside0 (Below w.heap.size w w'))
    case atStart => exact ⟨(([] : List ByteArray)), (0), (by first | rfl | (simp; done) | (simp [*]; done)), H', ⟨Nat.le_refl _⟩, ⟨by (with_reducible repeat (first | apply Kd.R_alloc | apply Kd.R_drewN | apply Kd.R_drew)); exact Kd.R_mono HO189.out (fun _ hk => ⟨(by simp [Value.ownBlock]), hk.2⟩)⟩, ⟨by first | exact Kd.R_nil _ _ _ _ _ | exact Kd.N_nil _ _ _ _ _ | exact Kd.V_nil _ _ _ _ _ | exact Kd.Q_nil _ _ _ _ _ | exact Kd.S_nil _ _ _ _ _⟩, ⟨by (with_reducible repeat (first | apply Kd.R_alloc | apply Kd.R_drewN | apply Kd.R_drew)); exact Kd.R_mono HO185.out (fun _ hk => ⟨hk.2, (by simp [Value.ownBlock])⟩)⟩, ⟨by repeat (first | (with_reducible first | exact HB.out | apply below_alloc | apply pw_below_drewN | apply below_drew1) | exact HB.out)⟩⟩
    case round =>
      clear H'
      try clear p2
      try clear c4
      try clear c4b0
      try clear c4b1
      try clear p6
      obtain ⟨x13_1, x47_1, rfl, HA, HK1, HO_11, HO_13, HO_45, HB⟩ := hrel
      cases gk with
      | zero => exact absurd HA.out (by simp [switchboardlaw16_ChunkTwice.l0])
      | succ k1 =>
        have H := HA.out
        clear HA
        simp only [switchboardlaw16_ChunkTwice.l0] at H
        by_cases c12 : x47_1 < (t182.length : Int)
        · rw [if_pos c12] at H
          have c12b0 : decide (x47_1 < (t182.length : Int)) = true := decide_eq_true c12
          clear c12
          by_cases c13 : 0 ≤ x47_1
          · rw [if_pos c13] at H
            have c13b0 : decide (0 ≤ x47_1) = true := decide_eq_true c13
            clear c13
            by_cases c14 : x47_1 < (t182.length : Int)
            · rw [if_pos c14] at H
              have c14b0 : decide (x47_1 < (t182.length : Int)) = true := decide_eq_true c14
              clear c14
              replace H := Option.bind_eq_some_iff.mp H
              obtain ⟨⟨t191, t192⟩, A150, H⟩ := H
              replace H : (if t192 = true then (if x13_1.length + t191.length < 8796093022208 then (switchboardlaw16_ChunkTwice.l0 k1 a0 (wrap64 (1 + (wrap64 (Int.tmod a1 8)))) t183 t186 t187 (x13_1 ++ t191) t182 (t182.length : Int) (wrap64 (x47_1 + 1))) else (none)) else (some false)) = some r := H
              have A15 := Aside0.mk A150
              clear A150
              by_cases c16 : t192 = true
              · subst c16
                have H1 : (if x13_1.length + t191.length < 8796093022208 then (switchboardlaw16_ChunkTwice.l0 k1 a0 (wrap64 (1 + (wrap64 (Int.tmod a1 8)))) t183 t186 t187 (x13_1 ++ t191) t182 (t182.length : Int) (wrap64 (x47_1 + 1))) else (none)) = some r := by rw [if_pos rfl] at H; exact H
                clear H
                have H := H1
                clear H1
                by_cases c17 : x13_1.length + t191.length < 8796093022208
                · rw [if_pos c17] at H
                  have LMc17 := Aside0.mk c17
                  clear c17
                  obtain ⟨y195, hy195⟩ : ∃ y_ : List ByteArray, y_ = (x13_1 ++ t191) := ⟨_, rfl⟩
                  replace H : (switchboardlaw16_ChunkTwice.l0 k1 a0 (wrap64 (1 + (wrap64 (Int.tmod a1 8)))) t183 t186 t187 y195 t182 (t182.length : Int) (wrap64 (x47_1 + 1))) = some r := by first | (rw [hy195]; with_reducible exact H) | (have H2_ := (Option.bind_some _ _).symm.trans H; rw [hy195]; with_reducible exact H2_) | (have H2_ := (Option.bind_some _ _).symm.trans H; with_reducible exact H2_) | with_reducible exact H | (rw [hy195]; exact H) | exact H
                  have Ny195 := Aside0.mk hy195
                  clear hy195
                  have H' := Aside0.mk H
                  clear H
                  have p190 : 0 ≤ (x47_1 : Int) := of_decide_eq_true (by first | (with_reducible assumption) | assumption)
                  have q190 : x47_1 < (t182.length : Int) := of_decide_eq_true (by first | (with_reducible assumption) | assumption)
                  obtain ⟨ad190, e190, hx190_0⟩ := Kd.at_string (Kd.R_reads' HO_45.out).2.2 x47_1 p190 q190
                  cases e190
                  replace p190 := eq_true p190
                  replace q190 := eq_true q190
                  go_wp2_with (first | (go_at_call 13; (with_reducible refine (chunk_Cut.calls k1 (rdOf ByteArray.empty t182 x47_1) (wrap64 (1 + (wrap64 (Int.tmod a1 8)))) t191 true _ A15.out).mono ?_); rintro e w18 ⟨v193, rfl, ho0, hb⟩; have n0_ := Aside0.mk (Kd.R_elder' (by (with_reducible repeat (first | apply Kd.R_alloc | apply Kd.R_drewN | apply Kd.R_drew)); exact HO_11.out) (Kd.R_base ho0) hb); have n1_ := Aside0.mk (Kd.R_elder' (by (with_reducible repeat (first | apply Kd.R_alloc | apply Kd.R_drewN | apply Kd.R_drew)); exact HO_13.out) (Kd.R_base ho0) hb); have n2_ := Aside0.mk (Kd.R_elder' (by (with_reducible repeat (first | apply Kd.R_alloc | apply Kd.R_drewN | apply Kd.R_drew)); exact HO_45.out) (Kd.R_base ho0) hb); have n3_ := Aside0.mk (Kd.R_lower (Kd.R_new' (Kd.R_new' (Kd.R_new' ho0 (Kd.R_lt (by (with_reducible repeat (first | apply Kd.R_alloc | apply Kd.R_drewN | apply Kd.R_drew)); exact HO_11.out))) (Kd.R_lt (by (with_reducible repeat (first | apply Kd.R_alloc | apply Kd.R_drewN | apply Kd.R_drew)); exact HO_13.out))) (Kd.R_lt (by (with_reducible repeat (first | apply Kd.R_alloc | apply Kd.R_drewN | apply Kd.R_drew)); exact HO_45.out))) (below_size (by repeat (first | (with_reducible first | exact HB.out | apply below_alloc | apply pw_below_drewN | apply below_drew1) | exact HB.out)))); have n4_ := Aside0.mk (below_step (by repeat (first | (with_reducible first | exact HB.out | apply below_alloc | apply pw_below_drewN | apply below_drew1) | exact HB.out)) hb); clear HO_11; clear HO_13; clear HO_45; clear HB; have HO_11 := n0_; have HO_13 := n1_; have HO_45 := n2_; have HO194 := n3_; have HB := n4_; clear n0_ n1_ n2_ n3_ n4_; (try clear hb); (try clear hb2); (try clear hk); (try clear hi); (try clear ho0); obtain ⟨Ao20, co20, eo20⟩ := Kd.R_slice HO194.out; subst eo20) | ((with_reducible refine gate_builtin (b := .append) (xs := #[.tmp 59, .tmp 60]) rfl ?_); (try (refine gate_guard (by rfl) ?_; dsimp only)); at_builtin; refine Kd.R_append_rows Kd.string (w0 := w) w.heap.size rfl (.tmp 59) (.tmp 60) 32 9 (.string ⟨#[]⟩) 16 rfl Try.underlying32 info9 rfl (by decide) (by omega) u13 x13_1 t191 _ _ _ (fun k_ => some k_ ≠ (v188 : Value).ownBlock ∧ some k_ ≠ (.slice (some ad190) t182.length co11 : Value).ownBlock ∧ some k_ ≠ (.slice Ao20 t191.length co20 : Value).ownBlock) (fun _ => False) rfl rfl ?aO ?aR (fun _ _ h => h) (fun _ h => h.elim) ?aF ?aB ?aS ?aL ?_; (case aR => repeat (first | exact (Kd.R_reads' HO194.out).2.2 | (with_reducible refine Kd.C_alloc ?_ _) | (with_reducible refine Kd.C_drewN ?_ _) | (with_reducible refine Kd.C_drew ?_))); (case aB => exact (by repeat (first | (with_reducible first | exact HB.out | apply below_alloc | apply pw_below_drewN | apply below_drew1) | exact HB.out))); (case aF => exact (fun k_ hk => ⟨Kd.fresh' (Kd.R_lt (by (with_reducible repeat (first | apply Kd.R_alloc | apply Kd.R_drewN | apply Kd.R_drew)); exact HO_11.out)) k_ hk, Kd.fresh' (Kd.R_lt (by (with_reducible repeat (first | apply Kd.R_alloc | apply Kd.R_drewN | apply Kd.R_drew)); exact HO_45.out)) k_ hk, Kd.fresh' (Kd.R_lt (by (with_reducible repeat (first | apply Kd.R_alloc | apply Kd.R_drewN | apply Kd.R_drew)); exact HO194.out)) k_ hk⟩)); (case aO => exact (by (with_reducible repeat (first | apply Kd.R_alloc | apply Kd.R_drewN | apply Kd.R_drew)); exact Kd.R_mono HO_13.out (fun _ hk => ⟨hk.1.1, ⟨hk.1.2, hk.2⟩⟩))); (case aS => exact (below_size (by repeat (first | (with_reducible first | exact HB.out | apply below_alloc | apply pw_below_drewN | apply below_drew1) | exact HB.out)))); (case aL => have := LMc17.out; omega); intro v196 w19 ho hb hg hat; rw [← Ny195.out] at ho; have n0_ := Aside0.mk (Kd.R_after (ok := (fun k_ => some k_ ≠ (.slice (some ad190) t182.length co11 : Value).ownBlock ∧ some k_ ≠ (.slice Ao20 t191.length co20 : Value).ownBlock)) (by (with_reducible repeat (first | apply Kd.R_alloc | apply Kd.R_drewN | apply Kd.R_drew)); exact Kd.R_mono HO_11.out (fun _ hk => ⟨⟨hk.1.2, hk.2⟩, hk.1.1⟩)) hg hat); have n1_ := Aside0.mk (Kd.R_after (ok := (fun k_ => some k_ ≠ (v188 : Value).ownBlock ∧ some k_ ≠ (.slice Ao20 t191.length co20 : Value).ownBlock)) (by (with_reducible repeat (first | apply Kd.R_alloc | apply Kd.R_drewN | apply Kd.R_drew)); exact Kd.R_mono HO_45.out (fun _ hk => ⟨⟨hk.1.1, hk.2⟩, hk.1.2⟩)) hg hat); have n2_ := Aside0.mk (Kd.R_after (ok := (fun k_ => some k_ ≠ (v188 : Value).ownBlock ∧ some k_ ≠ (.slice (some ad190) t182.length co11 : Value).ownBlock)) (by (with_reducible repeat (first | apply Kd.R_alloc | apply Kd.R_drewN | apply Kd.R_drew)); exact Kd.R_mono HO194.out (fun _ hk => ⟨⟨hk.1.1.2, hk.2⟩, hk.1.2⟩)) hg hat); have n3_ := Aside0.mk (hb); have n4_ := Aside0.mk (ho); clear HO_11; clear HO_45; clear HO194; clear HB; clear HO_13; have HO_11 := n0_; have HO_45 := n1_; have HO194 := n2_; have HB := n3_; have HO197 := n4_; clear n0_ n1_ n2_ n3_ n4_; clear ho hb hg hat))
                  repeat (go_quiet (first | (go_at_call 13; (with_reducible refine (chunk_Cut.calls k1 (rdOf ByteArray.empty t182 x47_1) (wrap64 (1 + (wrap64 (Int.tmod a1 8)))) t191 true _ A15.out).mono ?_); rintro e w18 ⟨v193, rfl, ho0, hb⟩; have n0_ := Aside0.mk (Kd.R_elder' (by (with_reducible repeat (first | apply Kd.R_alloc | apply Kd.R_drewN | apply Kd.R_drew)); exact HO_11.out) (Kd.R_base ho0) hb); have n1_ := Aside0.mk (Kd.R_elder' (by (with_reducible repeat (first | apply Kd.R_alloc | apply Kd.R_drewN | apply Kd.R_drew)); exact HO_13.out) (Kd.R_base ho0) hb); have n2_ := Aside0.mk (Kd.R_elder' (by (with_reducible repeat (first | apply Kd.R_alloc | apply Kd.R_drewN | apply Kd.R_drew)); exact HO_45.out) (Kd.R_base ho0) hb); have n3_ := Aside0.mk (Kd.R_lower (Kd.R_new' (Kd.R_new' (Kd.R_new' ho0 (Kd.R_lt (by (with_reducible repeat (first | apply Kd.R_alloc | apply Kd.R_drewN | apply Kd.R_drew)); exact HO_11.out))) (Kd.R_lt (by (with_reducible repeat (first | apply Kd.R_alloc | apply Kd.R_drewN | apply Kd.R_drew)); exact HO_13.out))) (Kd.R_lt (by (with_reducible repeat (first | apply Kd.R_alloc | apply Kd.R_drewN | apply Kd.R_drew)); exact HO_45.out))) (below_size (by repeat (first | (with_reducible first | exact HB.out | apply below_alloc | apply pw_below_drewN | apply below_drew1) | exact HB.out)))); have n4_ := Aside0.mk (below_step (by repeat (first | (with_reducible first | exact HB.out | apply below_alloc | apply pw_below_drewN | apply below_drew1) | exact HB.out)) hb); clear HO_11; clear HO_13; clear HO_45; clear HB; have HO_11 := n0_; have HO_13 := n1_; have HO_45 := n2_; have HO194 := n3_; have HB := n4_; clear n0_ n1_ n2_ n3_ n4_; (try clear hb); (try clear hb2); (try clear hk); (try clear hi); (try clear ho0); obtain ⟨Ao20, co20, eo20⟩ := Kd.R_slice HO194.out; subst eo20) | ((with_reducible refine gate_builtin (b := .append) (xs := #[.tmp 59, .tmp 60]) rfl ?_); (try (refine gate_guard (by rfl) ?_; dsimp only)); at_builtin; refine Kd.R_append_rows Kd.string (w0 := w) w.heap.size rfl (.tmp 59) (.tmp 60) 32 9 (.string ⟨#[]⟩) 16 rfl Try.underlying32 info9 rfl (by decide) (by omega) u13 x13_1 t191 _ _ _ (fun k_ => some k_ ≠ (v188 : Value).ownBlock ∧ some k_ ≠ (.slice (some ad190) t182.length co11 : Value).ownBlock ∧ some k_ ≠ (.slice Ao20 t191.length co20 : Value).ownBlock) (fun _ => False) rfl rfl ?aO ?aR (fun _ _ h => h) (fun _ h => h.elim) ?aF ?aB ?aS ?aL ?_; (case aR => repeat (first | exact (Kd.R_reads' HO194.out).2.2 | (with_reducible refine Kd.C_alloc ?_ _) | (with_reducible refine Kd.C_drewN ?_ _) | (with_reducible refine Kd.C_drew ?_))); (case aB => exact (by repeat (first | (with_reducible first | exact HB.out | apply below_alloc | apply pw_below_drewN | apply below_drew1) | exact HB.out))); (case aF => exact (fun k_ hk => ⟨Kd.fresh' (Kd.R_lt (by (with_reducible repeat (first | apply Kd.R_alloc | apply Kd.R_drewN | apply Kd.R_drew)); exact HO_11.out)) k_ hk, Kd.fresh' (Kd.R_lt (by (with_reducible repeat (first | apply Kd.R_alloc | apply Kd.R_drewN | apply Kd.R_drew)); exact HO_45.out)) k_ hk, Kd.fresh' (Kd.R_lt (by (with_reducible repeat (first | apply Kd.R_alloc | apply Kd.R_drewN | apply Kd.R_drew)); exact HO194.out)) k_ hk⟩)); (case aO => exact (by (with_reducible repeat (first | apply Kd.R_alloc | apply Kd.R_drewN | apply Kd.R_drew)); exact Kd.R_mono HO_13.out (fun _ hk => ⟨hk.1.1, ⟨hk.1.2, hk.2⟩⟩))); (case aS => exact (below_size (by repeat (first | (with_reducible first | exact HB.out | apply below_alloc | apply pw_below_drewN | apply below_drew1) | exact HB.out)))); (case aL => have := LMc17.out; omega); intro v196 w19 ho hb hg hat; rw [← Ny195.out] at ho; have n0_ := Aside0.mk (Kd.R_after (ok := (fun k_ => some k_ ≠ (.slice (some ad190) t182.length co11 : Value).ownBlock ∧ some k_ ≠ (.slice Ao20 t191.length co20 : Value).ownBlock)) (by (with_reducible repeat (first | apply Kd.R_alloc | apply Kd.R_drewN | apply Kd.R_drew)); exact Kd.R_mono HO_11.out (fun _ hk => ⟨⟨hk.1.2, hk.2⟩, hk.1.1⟩)) hg hat); have n1_ := Aside0.mk (Kd.R_after (ok := (fun k_ => some k_ ≠ (v188 : Value).ownBlock ∧ some k_ ≠ (.slice Ao20 t191.length co20 : Value).ownBlock)) (by (with_reducible repeat (first | apply Kd.R_alloc | apply Kd.R_drewN | apply Kd.R_drew)); exact Kd.R_mono HO_45.out (fun _ hk => ⟨⟨hk.1.1, hk.2⟩, hk.1.2⟩)) hg hat); have n2_ := Aside0.mk (Kd.R_after (ok := (fun k_ => some k_ ≠ (v188 : Value).ownBlock ∧ some k_ ≠ (.slice (some ad190) t182.length co11 : Value).ownBlock)) (by (with_reducible repeat (first | apply Kd.R_alloc | apply Kd.R_drewN | apply Kd.R_drew)); exact Kd.R_mono HO194.out (fun _ hk => ⟨⟨hk.1.1.2, hk.2⟩, hk.1.2⟩)) hg hat); have n3_ := Aside0.mk (hb); have n4_ := Aside0.mk (ho); clear HO_11; clear HO_45; clear HO194; clear HB; clear HO_13; have HO_11 := n0_; have HO_45 := n1_; have HO194 := n2_; have HB := n3_; have HO197 := n4_; clear n0_ n1_ n2_ n3_ n4_; clear ho hb hg hat)); try go_wp2_with (first | (go_at_call 13; (with_reducible refine (chunk_Cut.calls k1 (rdOf ByteArray.empty t182 x47_1) (wrap64 (1 + (wrap64 (Int.tmod a1 8)))) t191 true _ A15.out).mono ?_); rintro e w18 ⟨v193, rfl, ho0, hb⟩; have n0_ := Aside0.mk (Kd.R_elder' (by (with_reducible repeat (first | apply Kd.R_alloc | apply Kd.R_drewN | apply Kd.R_drew)); exact HO_11.out) (Kd.R_base ho0) hb); have n1_ := Aside0.mk (Kd.R_elder' (by (with_reducible repeat (first | apply Kd.R_alloc | apply Kd.R_drewN | apply Kd.R_drew)); exact HO_13.out) (Kd.R_base ho0) hb); have n2_ := Aside0.mk (Kd.R_elder' (by (with_reducible repeat (first | apply Kd.R_alloc | apply Kd.R_drewN | apply Kd.R_drew)); exact HO_45.out) (Kd.R_base ho0) hb); have n3_ := Aside0.mk (Kd.R_lower (Kd.R_new' (Kd.R_new' (Kd.R_new' ho0 (Kd.R_lt (by (with_reducible repeat (first | apply Kd.R_alloc | apply Kd.R_drewN | apply Kd.R_drew)); exact HO_11.out))) (Kd.R_lt (by (with_reducible repeat (first | apply Kd.R_alloc | apply Kd.R_drewN | apply Kd.R_drew)); exact HO_13.out))) (Kd.R_lt (by (with_reducible repeat (first | apply Kd.R_alloc | apply Kd.R_drewN | apply Kd.R_drew)); exact HO_45.out))) (below_size (by repeat (first | (with_reducible first | exact HB.out | apply below_alloc | apply pw_below_drewN | apply below_drew1) | exact HB.out)))); have n4_ := Aside0.mk (below_step (by repeat (first | (with_reducible first | exact HB.out | apply below_alloc | apply pw_below_drewN | apply below_drew1) | exact HB.out)) hb); clear HO_11; clear HO_13; clear HO_45; clear HB; have HO_11 := n0_; have HO_13 := n1_; have HO_45 := n2_; have HO194 := n3_; have HB := n4_; clear n0_ n1_ n2_ n3_ n4_; (try clear hb); (try clear hb2); (try clear hk); (try clear hi); (try clear ho0); obtain ⟨Ao20, co20, eo20⟩ := Kd.R_slice HO194.out; subst eo20) | ((with_reducible refine gate_builtin (b := .append) (xs := #[.tmp 59, .tmp 60]) rfl ?_); (try (refine gate_guard (by rfl) ?_; dsimp only)); at_builtin; refine Kd.R_append_rows Kd.string (w0 := w) w.heap.size rfl (.tmp 59) (.tmp 60) 32 9 (.string ⟨#[]⟩) 16 rfl Try.underlying32 info9 rfl (by decide) (by omega) u13 x13_1 t191 _ _ _ (fun k_ => some k_ ≠ (v188 : Value).ownBlock ∧ some k_ ≠ (.slice (some ad190) t182.length co11 : Value).ownBlock ∧ some k_ ≠ (.slice Ao20 t191.length co20 : Value).ownBlock) (fun _ => False) rfl rfl ?aO ?aR (fun _ _ h => h) (fun _ h => h.elim) ?aF ?aB ?aS ?aL ?_; (case aR => repeat (first | exact (Kd.R_reads' HO194.out).2.2 | (with_reducible refine Kd.C_alloc ?_ _) | (with_reducible refine Kd.C_drewN ?_ _) | (with_reducible refine Kd.C_drew ?_))); (case aB => exact (by repeat (first | (with_reducible first | exact HB.out | apply below_alloc | apply pw_below_drewN | apply below_drew1) | exact HB.out))); (case aF => exact (fun k_ hk => ⟨Kd.fresh' (Kd.R_lt (by (with_reducible repeat (first | apply Kd.R_alloc | apply Kd.R_drewN | apply Kd.R_drew)); exact HO_11.out)) k_ hk, Kd.fresh' (Kd.R_lt (by (with_reducible repeat (first | apply Kd.R_alloc | apply Kd.R_drewN | apply Kd.R_drew)); exact HO_45.out)) k_ hk, Kd.fresh' (Kd.R_lt (by (with_reducible repeat (first | apply Kd.R_alloc | apply Kd.R_drewN | apply Kd.R_drew)); exact HO194.out)) k_ hk⟩)); (case aO => exact (by (with_reducible repeat (first | apply Kd.R_alloc | apply Kd.R_drewN | apply Kd.R_drew)); exact Kd.R_mono HO_13.out (fun _ hk => ⟨hk.1.1, ⟨hk.1.2, hk.2⟩⟩))); (case aS => exact (below_size (by repeat (first | (with_reducible first | exact HB.out | apply below_alloc | apply pw_below_drewN | apply below_drew1) | exact HB.out)))); (case aL => have := LMc17.out; omega); intro v196 w19 ho hb hg hat; rw [← Ny195.out] at ho; have n0_ := Aside0.mk (Kd.R_after (ok := (fun k_ => some k_ ≠ (.slice (some ad190) t182.length co11 : Value).ownBlock ∧ some k_ ≠ (.slice Ao20 t191.length co20 : Value).ownBlock)) (by (with_reducible repeat (first | apply Kd.R_alloc | apply Kd.R_drewN | apply Kd.R_drew)); exact Kd.R_mono HO_11.out (fun _ hk => ⟨⟨hk.1.2, hk.2⟩, hk.1.1⟩)) hg hat); have n1_ := Aside0.mk (Kd.R_after (ok := (fun k_ => some k_ ≠ (v188 : Value).ownBlock ∧ some k_ ≠ (.slice Ao20 t191.length co20 : Value).ownBlock)) (by (with_reducible repeat (first | apply Kd.R_alloc | apply Kd.R_drewN | apply Kd.R_drew)); exact Kd.R_mono HO_45.out (fun _ hk => ⟨⟨hk.1.1, hk.2⟩, hk.1.2⟩)) hg hat); have n2_ := Aside0.mk (Kd.R_after (ok := (fun k_ => some k_ ≠ (v188 : Value).ownBlock ∧ some k_ ≠ (.slice (some ad190) t182.length co11 : Value).ownBlock)) (by (with_reducible repeat (first | apply Kd.R_alloc | apply Kd.R_drewN | apply Kd.R_drew)); exact Kd.R_mono HO194.out (fun _ hk => ⟨⟨hk.1.1.2, hk.2⟩, hk.1.2⟩)) hg hat); have n3_ := Aside0.mk (hb); have n4_ := Aside0.mk (ho); clear HO_11; clear HO_45; clear HO194; clear HB; clear HO_13; have HO_11 := n0_; have HO_45 := n1_; have HO194 := n2_; have HB := n3_; have HO197 := n4_; clear n0_ n1_ n2_ n3_ n4_; clear ho hb hg hat)))
                  go_roundg k1
                  case measure => have := HK1.out; omega
                  case rel => exact ⟨(y195), (wrap64 (x47_1 + 1)), (by first | rfl | (simp; done) | (simp [*]; done)), H', ⟨by have := HK1.out; omega⟩, ⟨by (with_reducible repeat (first | apply Kd.R_alloc | apply Kd.R_drewN | apply Kd.R_drew)); exact Kd.R_mono HO_11.out (fun _ hk => ⟨hk.2, hk.1.1⟩)⟩, ⟨by (with_reducible repeat (first | apply Kd.R_alloc | apply Kd.R_drewN | apply Kd.R_drew)); exact Kd.R_mono HO197.out (fun _ hk => ⟨hk.1, hk.2.1⟩)⟩, ⟨by (with_reducible repeat (first | apply Kd.R_alloc | apply Kd.R_drewN | apply Kd.R_drew)); exact Kd.R_mono HO_45.out (fun _ hk => ⟨hk.1.1, hk.2⟩)⟩, ⟨by repeat (first | (with_reducible first | exact HB.out | apply below_alloc | apply pw_below_drewN | apply below_drew1) | exact HB.out)⟩⟩
                · rw [if_neg c17] at H
                  exact absurd H (by simp)
              · replace c16 := Bool.eq_false_iff.mpr c16
                subst c16
                have H1 : (some false) = some r := by rw [if_neg (show ¬ (false = true) by decide)] at H; exact H
                clear H
                have H := H1
                clear H1
                obtain rfl := Option.some.inj H
                have p190 : 0 ≤ (x47_1 : Int) := of_decide_eq_true (by first | (with_reducible assumption) | assumption)
                have q190 : x47_1 < (t182.length : Int) := of_decide_eq_true (by first | (with_reducible assumption) | assumption)
                obtain ⟨ad190, e190, hx190_0⟩ := Kd.at_string (Kd.R_reads' HO_45.out).2.2 x47_1 p190 q190
                cases e190
                replace p190 := eq_true p190
                replace q190 := eq_true q190
                go_wp2_with (first | (go_at_call 13; (with_reducible refine (chunk_Cut.calls k1 (rdOf ByteArray.empty t182 x47_1) (wrap64 (1 + (wrap64 (Int.tmod a1 8)))) t191 false _ A15.out).mono ?_); rintro e w21 ⟨v193, rfl, ho0, hb⟩; have n0_ := Aside0.mk (Kd.R_elder' (by (with_reducible repeat (first | apply Kd.R_alloc | apply Kd.R_drewN | apply Kd.R_drew)); exact HO_11.out) (Kd.R_base ho0) hb); have n1_ := Aside0.mk (Kd.R_elder' (by (with_reducible repeat (first | apply Kd.R_alloc | apply Kd.R_drewN | apply Kd.R_drew)); exact HO_13.out) (Kd.R_base ho0) hb); have n2_ := Aside0.mk (Kd.R_elder' (by (with_reducible repeat (first | apply Kd.R_alloc | apply Kd.R_drewN | apply Kd.R_drew)); exact HO_45.out) (Kd.R_base ho0) hb); have n3_ := Aside0.mk (Kd.R_lower (Kd.R_new' (Kd.R_new' (Kd.R_new' ho0 (Kd.R_lt (by (with_reducible repeat (first | apply Kd.R_alloc | apply Kd.R_drewN | apply Kd.R_drew)); exact HO_11.out))) (Kd.R_lt (by (with_reducible repeat (first | apply Kd.R_alloc | apply Kd.R_drewN | apply Kd.R_drew)); exact HO_13.out))) (Kd.R_lt (by (with_reducible repeat (first | apply Kd.R_alloc | apply Kd.R_drewN | apply Kd.R_drew)); exact HO_45.out))) (below_size (by repeat (first | (with_reducible first | exact HB.out | apply below_alloc | apply pw_below_drewN | apply below_drew1) | exact HB.out)))); have n4_ := Aside0.mk (below_step (by repeat (first | (with_reducible first | exact HB.out | apply below_alloc | apply pw_below_drewN | apply below_drew1) | exact HB.out)) hb); clear HO_11; clear HO_13; clear HO_45; clear HB; have HO_11 := n0_; have HO_13 := n1_; have HO_45 := n2_; have HO194 := n3_; have HB := n4_; clear n0_ n1_ n2_ n3_ n4_; (try clear hb); (try clear hb2); (try clear hk); (try clear hi); (try clear ho0)))
                repeat (go_quiet (first | (go_at_call 13; (with_reducible refine (chunk_Cut.calls k1 (rdOf ByteArray.empty t182 x47_1) (wrap64 (1 + (wrap64 (Int.tmod a1 8)))) t191 false _ A15.out).mono ?_); rintro e w21 ⟨v193, rfl, ho0, hb⟩; have n0_ := Aside0.mk (Kd.R_elder' (by (with_reducible repeat (first | apply Kd.R_alloc | apply Kd.R_drewN | apply Kd.R_drew)); exact HO_11.out) (Kd.R_base ho0) hb); have n1_ := Aside0.mk (Kd.R_elder' (by (with_reducible repeat (first | apply Kd.R_alloc | apply Kd.R_drewN | apply Kd.R_drew)); exact HO_13.out) (Kd.R_base ho0) hb); have n2_ := Aside0.mk (Kd.R_elder' (by (with_reducible repeat (first | apply Kd.R_alloc | apply Kd.R_drewN | apply Kd.R_drew)); exact HO_45.out) (Kd.R_base ho0) hb); have n3_ := Aside0.mk (Kd.R_lower (Kd.R_new' (Kd.R_new' (Kd.R_new' ho0 (Kd.R_lt (by (with_reducible repeat (first | apply Kd.R_alloc | apply Kd.R_drewN | apply Kd.R_drew)); exact HO_11.out))) (Kd.R_lt (by (with_reducible repeat (first | apply Kd.R_alloc | apply Kd.R_drewN | apply Kd.R_drew)); exact HO_13.out))) (Kd.R_lt (by (with_reducible repeat (first | apply Kd.R_alloc | apply Kd.R_drewN | apply Kd.R_drew)); exact HO_45.out))) (below_size (by repeat (first | (with_reducible first | exact HB.out | apply below_alloc | apply pw_below_drewN | apply below_drew1) | exact HB.out)))); have n4_ := Aside0.mk (below_step (by repeat (first | (with_reducible first | exact HB.out | apply below_alloc | apply pw_below_drewN | apply below_drew1) | exact HB.out)) hb); clear HO_11; clear HO_13; clear HO_45; clear HB; have HO_11 := n0_; have HO_13 := n1_; have HO_45 := n2_; have HO194 := n3_; have HB := n4_; clear n0_ n1_ n2_ n3_ n4_; (try clear hb); (try clear hb2); (try clear hk); (try clear hi); (try clear ho0))); try go_wp2_with (first | (go_at_call 13; (with_reducible refine (chunk_Cut.calls k1 (rdOf ByteArray.empty t182 x47_1) (wrap64 (1 + (wrap64 (Int.tmod a1 8)))) t191 false _ A15.out).mono ?_); rintro e w21 ⟨v193, rfl, ho0, hb⟩; have n0_ := Aside0.mk (Kd.R_elder' (by (with_reducible repeat (first | apply Kd.R_alloc | apply Kd.R_drewN | apply Kd.R_drew)); exact HO_11.out) (Kd.R_base ho0) hb); have n1_ := Aside0.mk (Kd.R_elder' (by (with_reducible repeat (first | apply Kd.R_alloc | apply Kd.R_drewN | apply Kd.R_drew)); exact HO_13.out) (Kd.R_base ho0) hb); have n2_ := Aside0.mk (Kd.R_elder' (by (with_reducible repeat (first | apply Kd.R_alloc | apply Kd.R_drewN | apply Kd.R_drew)); exact HO_45.out) (Kd.R_base ho0) hb); have n3_ := Aside0.mk (Kd.R_lower (Kd.R_new' (Kd.R_new' (Kd.R_new' ho0 (Kd.R_lt (by (with_reducible repeat (first | apply Kd.R_alloc | apply Kd.R_drewN | apply Kd.R_drew)); exact HO_11.out))) (Kd.R_lt (by (with_reducible repeat (first | apply Kd.R_alloc | apply Kd.R_drewN | apply Kd.R_drew)); exact HO_13.out))) (Kd.R_lt (by (with_reducible repeat (first | apply Kd.R_alloc | apply Kd.R_drewN | apply Kd.R_drew)); exact HO_45.out))) (below_size (by repeat (first | (with_reducible first | exact HB.out | apply below_alloc | apply pw_below_drewN | apply below_drew1) | exact HB.out)))); have n4_ := Aside0.mk (below_step (by repeat (first | (with_reducible first | exact HB.out | apply below_alloc | apply pw_below_drewN | apply below_drew1) | exact HB.out)) hb); clear HO_11; clear HO_13; clear HO_45; clear HB; have HO_11 := n0_; have HO_13 := n1_; have HO_45 := n2_; have HO194 := n3_; have HB := n4_; clear n0_ n1_ n2_ n3_ n4_; (try clear hb); (try clear hb2); (try clear hk); (try clear hi); (try clear ho0))))
                go_ret
                exact ⟨by first | rfl | (simp [errW_none, errW_some] <;> rfl) | (simp [*, errW_none, errW_some] <;> rfl), by repeat (first | (with_reducible first | exact HB.out | apply below_alloc | apply pw_below_drewN | apply below_drew1) | exact HB.out)⟩
            · rw [if_neg c14] at H
              exact absurd H (by simp)
          · rw [if_neg c13] at H
            exact absurd H (by simp)
        · rw [if_neg c12] at H
          have c12b0 : decide (x47_1 < (t182.length : Int)) = false := decide_eq_false c12
          clear c12
          have HC22 := Aside0.mk H
          clear H
          go_upto_region 16 with (fail)
          repeat (go_quiet (fail); go_upto_region 16 with (fail))
          go_cut [75] (fun v75 wc => ∃ (kq : Nat) (x75_21 : Bool), v75 = .bool x75_21 ∧ Aside0 (switchboardlaw16_ChunkTwice.j1 kq a0 t186 x13_1 x75_21 = some r) ∧ Aside0 (kq ≤ k1) ∧ Aside0 (Kd.R Kd.string 9 wc w.heap.size (fun k_ => some k_ ≠ (u13 : Value).ownBlock) v188 t186) ∧ Aside0 (Kd.R Kd.string 9 wc w.heap.size (fun k_ => some k_ ≠ (v188 : Value).ownBlock) u13 x13_1) ∧ Aside0 (Below w.heap.size w wc))
          case first =>
            have H := HC22.out
            clear HC22
            by_cases c23 : t183 = true
            · subst c23
              have H1 : (if t187 = true then (switchboardlaw16_ChunkTwice.j1 k1 a0 t186 x13_1 ((x13_1.length : Int) != (t186.length : Int))) else (switchboardlaw16_ChunkTwice.j1 k1 a0 t186 x13_1 true)) = some r := by rw [if_pos rfl] at H; exact H
              clear H
              have H := H1
              clear H1
              by_cases c24 : t187 = true
              · subst c24
                have H1 : (switchboardlaw16_ChunkTwice.j1 k1 a0 t186 x13_1 ((x13_1.length : Int) != (t186.length : Int))) = some r := by rw [if_pos rfl] at H; exact H
                clear H
                have H := H1
                clear H1
                have H' := Aside0.mk H
                clear H
                obtain ⟨Ao25, co25, eo25⟩ := Kd.R_slice HO_13.out
                subst eo25
                obtain ⟨Ao26, co26, eo26⟩ := Kd.R_slice HO_11.out
                subst eo26
                go_wp2
                repeat (go_quiet (fail); try go_wp2)
                go_meet
                case rel => exact ⟨_, (((x13_1.length : Int) != (t186.length : Int))), (by first | rfl | (simp; done) | (simp [*]; done)), H', ⟨by have := HK1.out; first | omega | exact Nat.le_refl _⟩, ⟨by (with_reducible repeat (first | apply Kd.R_alloc | apply Kd.R_drewN | apply Kd.R_drew)); exact Kd.R_mono HO_11.out (fun _ hk => hk.1)⟩, ⟨by (with_reducible repeat (first | apply Kd.R_alloc | apply Kd.R_drewN | apply Kd.R_drew)); exact Kd.R_mono HO_13.out (fun _ hk => hk.1)⟩, ⟨by repeat (first | (with_reducible first | exact HB.out | apply below_alloc | apply pw_below_drewN | apply below_drew1) | exact HB.out)⟩⟩
              · replace c24 := Bool.eq_false_iff.mpr c24
                subst c24
                have H1 : (switchboardlaw16_ChunkTwice.j1 k1 a0 t186 x13_1 true) = some r := by rw [if_neg (show ¬ (false = true) by decide)] at H; exact H
                clear H
                have H := H1
                clear H1
                have H' := Aside0.mk H
                clear H
                go_wp2
                repeat (go_quiet (fail); try go_wp2)
                go_meet
                case rel => exact ⟨_, (true), (by first | rfl | (simp; done) | (simp [*]; done)), H', ⟨by have := HK1.out; first | omega | exact Nat.le_refl _⟩, ⟨by (with_reducible repeat (first | apply Kd.R_alloc | apply Kd.R_drewN | apply Kd.R_drew)); exact Kd.R_mono HO_11.out (fun _ hk => hk.1)⟩, ⟨by (with_reducible repeat (first | apply Kd.R_alloc | apply Kd.R_drewN | apply Kd.R_drew)); exact Kd.R_mono HO_13.out (fun _ hk => hk.1)⟩, ⟨by repeat (first | (with_reducible first | exact HB.out | apply below_alloc | apply pw_below_drewN | apply below_drew1) | exact HB.out)⟩⟩
            · replace c23 := Bool.eq_false_iff.mpr c23
              subst c23
              have H1 : (switchboardlaw16_ChunkTwice.j1 k1 a0 t186 x13_1 true) = some r := by rw [if_neg (show ¬ (false = true) by decide)] at H; exact H
              clear H
              have H := H1
              clear H1
              have H' := Aside0.mk H
              clear H
              go_wp2
              repeat (go_quiet (fail); try go_wp2)
              go_meet
              case rel => exact ⟨_, (true), (by first | rfl | (simp; done) | (simp [*]; done)), H', ⟨by have := HK1.out; first | omega | exact Nat.le_refl _⟩, ⟨by (with_reducible repeat (first | apply Kd.R_alloc | apply Kd.R_drewN | apply Kd.R_drew)); exact Kd.R_mono HO_11.out (fun _ hk => hk.1)⟩, ⟨by (with_reducible repeat (first | apply Kd.R_alloc | apply Kd.R_drewN | apply Kd.R_drew)); exact Kd.R_mono HO_13.out (fun _ hk => hk.1)⟩, ⟨by repeat (first | (with_reducible first | exact HB.out | apply below_alloc | apply pw_below_drewN | apply below_drew1) | exact HB.out)⟩⟩
          case rest =>
            clear HC22
            try clear c1
            try clear p1
            try clear q1
            try clear hx1
            try clear c2
            try clear p2
            try clear c4
            try clear c4b0
            try clear c4b1
            try clear p6
            try clear c12
            try clear c12b0
            try clear c13
            try clear c13b0
            try clear c14
            try clear c14b0
            try clear c16
            try clear c17
            try clear p19
            try clear q19
            try clear hx19
            try clear c23
            try clear c24
            try clear hx190_0
            try clear p190
            try clear p2
            try clear p6
            try clear q190
            obtain ⟨kq, x75_21, rfl, HA, HJ21, HO_11, HO_13, HB⟩ := hcut
            cases kq with
            | zero => exact absurd HA.out (by simp [switchboardlaw16_ChunkTwice.j1])
            | succ kj21 =>
              have H := HA.out
              clear HA
              simp only [switchboardlaw16_ChunkTwice.j1] at H
              by_cases c27 : x75_21 = true
              · subst c27
                have H1 : (some false) = some r := by rw [if_pos rfl] at H; exact H
                clear H
                have H := H1
                clear H1
                obtain rfl := Option.some.inj H
                go_wp2
                repeat (go_quiet (fail); try go_wp2)
                go_ret
                exact ⟨by first | rfl | (simp [errW_none, errW_some] <;> rfl) | (simp [*, errW_none, errW_some] <;> rfl), by repeat (first | (with_reducible first | exact HB.out | apply below_alloc | apply pw_below_drewN | apply below_drew1) | exact HB.out)⟩
              · replace c27 := Bool.eq_false_iff.mpr c27
                subst c27
                have H1 : (switchboardlaw16_ChunkTwice.l1 kj21 a0 t186 x13_1 (x13_1.length : Int) 0) = some r := by rw [if_neg (show ¬ (false = true) by decide)] at H; exact H
                clear H
                have H := H1
                clear H1
                have H' := Aside0.mk H
                clear H
                obtain ⟨Ao28, co28, eo28⟩ := Kd.R_slice HO_13.out
                subst eo28
                go_wp2
                repeat (go_quiet (fail); try go_wp2)
                go_loopg [78] kj21 (fun kq v78 w' => ∃ (x78_3 : Int), v78 = .int .i64 x78_3 ∧ Aside0 (switchboardlaw16_ChunkTwice.l1 kq a0 t186 x13_1 (x13_1.length : Int) x78_3 = some r) ∧ Aside0 (kq ≤ kj21) ∧ Aside0 (Kd.R Kd.string 9 w' w.heap.size (fun k_ => some k_ ≠ ((.slice Ao28 x13_1.length co28) : Value).ownBlock) v188 t186) ∧ Aside0 (Kd.R Kd.string 9 w' w.heap.size (fun k_ => some k_ ≠ (v188 : Value).ownBlock) (.slice Ao28 x13_1.length co28) x13_1) ∧ Aside0 (Below w.heap.size w w'))
                case atStart => exact ⟨(0), (by first | rfl | (simp; done) | (simp [*]; done)), H', ⟨Nat.le_refl _⟩, ⟨by (with_reducible repeat (first | apply Kd.R_alloc | apply Kd.R_drewN | apply Kd.R_drew)); exact HO_11.out⟩, ⟨by (with_reducible repeat (first | apply Kd.R_alloc | apply Kd.R_drewN | apply Kd.R_drew)); exact HO_13.out⟩, ⟨by repeat (first | (with_reducible first | exact HB.out | apply below_alloc | apply pw_below_drewN | apply below_drew1) | exact HB.out)⟩⟩
                case round =>
                  clear H'
                  try clear c1
                  try clear p1
                  try clear q1
                  try clear hx1
                  try clear c2
                  try clear p2
                  try clear c4
                  try clear c4b0
                  try clear c4b1
                  try clear p6
                  try clear c12
                  try clear c12b0
                  try clear c13
                  try clear c13b0
                  try clear c14
                  try clear c14b0
                  try clear c16
                  try clear c17
                  try clear p19
                  try clear q19
                  try clear hx19
                  try clear c23
                  try clear c24
                  try clear c27
                  try clear hx190_0
                  try clear p1
                  try clear p19
                  try clear p190
                  try clear p2
                  try clear p6
                  try clear q1
                  try clear q19
                  try clear q190
                  obtain ⟨x78_3, rfl, HA, HK3, HO_11, HO_13, HB⟩ := hrel
                  cases gk with
                  | zero => exact absurd HA.out (by simp [switchboardlaw16_ChunkTwice.l1])
                  | succ k3 =>
                    have H := HA.out
                    clear HA
                    simp only [switchboardlaw16_ChunkTwice.l1] at H
                    by_cases c29 : x78_3 < (x13_1.length : Int)
                    · rw [if_pos c29] at H
                      have c29b0 : decide (x78_3 < (x13_1.length : Int)) = true := decide_eq_true c29
                      clear c29
                      by_cases c30 : 0 ≤ x78_3
                      · rw [if_pos c30] at H
                        have c30b0 : decide (0 ≤ x78_3) = true := decide_eq_true c30
                        clear c30
                        by_cases c31 : x78_3 < (x13_1.length : Int)
                        · rw [if_pos c31] at H
                          have c31b0 : decide (x78_3 < (x13_1.length : Int)) = true := decide_eq_true c31
                          clear c31
                          by_cases c32 : x78_3 < (t186.length : Int)
                          · rw [if_pos c32] at H
                            have c32b0 : decide (x78_3 < (t186.length : Int)) = true := decide_eq_true c32
                            clear c32
                            by_cases c33 : (rdOf ByteArray.empty x13_1 x78_3).toList = (rdOf ByteArray.empty t186 x78_3).toList
                            · rw [if_pos c33] at H
                              have c33b0 : ((rdOf ByteArray.empty x13_1 x78_3).toList == (rdOf ByteArray.empty t186 x78_3).toList) = true := beq_iff_eq.mpr c33
                              have c33b1 : ((rdOf ByteArray.empty x13_1 x78_3).toList != (rdOf ByteArray.empty t186 x78_3).toList) = false := bne_eq_false_iff_eq.mpr c33
                              clear c33
                              have H' := Aside0.mk H
                              clear H
                              have p198 : 0 ≤ (x78_3 : Int) := of_decide_eq_true (by first | (with_reducible assumption) | assumption)
                              have q198 : x78_3 < (x13_1.length : Int) := of_decide_eq_true (by first | (with_reducible assumption) | assumption)
                              obtain ⟨ad198, e198, hx198_0⟩ := Kd.at_string (Kd.R_reads' HO_13.out).2.2 x78_3 p198 q198
                              cases e198
                              replace p198 := eq_true p198
                              replace q198 := eq_true q198
                              obtain ⟨Ao34, co34, eo34⟩ := Kd.R_slice HO_11.out
                              subst eo34
                              have p199 : 0 ≤ (x78_3 : Int) := of_decide_eq_true (by first | (with_reducible assumption) | assumption)
                              have q199 : x78_3 < (t186.length : Int) := of_decide_eq_true (by first | (with_reducible assumption) | assumption)
                              obtain ⟨ad199, e199, hx199_0⟩ := Kd.at_string (Kd.R_reads' HO_11.out).2.2 x78_3 p199 q199
                              cases e199
                              replace p199 := eq_true p199
                              replace q199 := eq_true q199
                              go_wp2
                              repeat (go_quiet (fail); try go_wp2)
                              go_roundg k3
                              case measure => have := HK1.out; have := HJ21.out; have := HK3.out; omega
                              case rel => exact ⟨(wrap64 (x78_3 + 1)), (by first | rfl | (simp; done) | (simp [*]; done)), H', ⟨by have := HK1.out; have := HJ21.out; have := HK3.out; omega⟩, ⟨by (with_reducible repeat (first | apply Kd.R_alloc | apply Kd.R_drewN | apply Kd.R_drew)); exact HO_11.out⟩, ⟨by (with_reducible repeat (first | apply Kd.R_alloc | apply Kd.R_drewN | apply Kd.R_drew)); exact HO_13.out⟩, ⟨by repeat (first | (with_reducible first | exact HB.out | apply below_alloc | apply pw_below_drewN | apply below_drew1) | exact HB.out)⟩⟩
                            · rw [if_neg c33] at H
                              have c33b0 : ((rdOf ByteArray.empty x13_1 x78_3).toList == (rdOf ByteArray.empty t186 x78_3).toList) = false := beq_eq_false_iff_ne.mpr c33
                              have c33b1 : ((rdOf ByteArray.empty x13_1 x78_3).toList != (rdOf ByteArray.empty t186 x78_3).toList) = true := bne_iff_ne.mpr c33
                              obtain rfl := Option.some.inj H
                              have p198 : 0 ≤ (x78_3 : Int) := of_decide_eq_true (by first | (with_reducible assumption) | assumption)
                              have q198 : x78_3 < (x13_1.length : Int) := of_decide_eq_true (by first | (with_reducible assumption) | assumption)
                              obtain ⟨ad198, e198, hx198_0⟩ := Kd.at_string (Kd.R_reads' HO_13.out).2.2 x78_3 p198 q198
                              cases e198
                              replace p198 := eq_true p198
                              replace q198 := eq_true q198
                              obtain ⟨Ao35, co35, eo35⟩ := Kd.R_slice HO_11.out
                              subst eo35
                              have p199 : 0 ≤ (x78_3 : Int) := of_decide_eq_true (by first | (with_reducible assumption) | assumption)
                              have q199 : x78_3 < (t186.length : Int) := of_decide_eq_true (by first | (with_reducible assumption) | assumption)
                              obtain ⟨ad199, e199, hx199_0⟩ := Kd.at_string (Kd.R_reads' HO_11.out).2.2 x78_3 p199 q199
                              cases e199
                              replace p199 := eq_true p199
                              replace q199 := eq_true q199
                              go_wp2
                              repeat (go_quiet (fail); try go_wp2)
                              go_ret
                              exact ⟨by first | rfl | (simp [errW_none, errW_some] <;> rfl) | (simp [*, errW_none, errW_some] <;> rfl), by repeat (first | (with_reducible first | exact HB.out | apply below_alloc | apply pw_below_drewN | apply below_drew1) | exact HB.out)⟩
                          · rw [if_neg c32] at H
                            exact absurd H (by simp)
                        · rw [if_neg c31] at H
                          exact absurd H (by simp)
                      · rw [if_neg c30] at H
                        exact absurd H (by simp)
                    · rw [if_neg c29] at H
                      have c29b0 : decide (x78_3 < (x13_1.length : Int)) = false := decide_eq_false c29
                      clear c29
                      replace H := Option.bind_eq_some_iff.mp H
                      obtain ⟨t200, A360, H⟩ := H
                      replace H : (if t200.toList = a0.toList then ((switchboardlaw16_awake.f k3).bind fun t201 => (some t201)) else (some false)) = some r := H
                      have A36 := Aside0.mk A360
                      clear A360
                      by_cases c37 : t200.toList = a0.toList
                      · rw [if_pos c37] at H
                        have c37b0 : (t200.toList == a0.toList) = true := beq_iff_eq.mpr c37
                        have c37b1 : (t200.toList != a0.toList) = false := bne_eq_false_iff_eq.mpr c37
                        clear c37
                        replace H := Option.bind_eq_some_iff.mp H
                        obtain ⟨t201, A380, H⟩ := H
                        replace H : (some t201) = some r := H
                        have A38 := Aside0.mk A380
                        clear A380
                        obtain rfl := Option.some.inj H
                        go_wp2_with (first | (go_at_call 14; (with_reducible refine (chunk_Join.calls _ _ x13_1 t200 _ ?side1 ?side2 A36.out).mono ?_); (case side1 => repeat (first | exact (Kd.R_reads' HO_13.out).2.2 | (with_reducible refine Kd.C_alloc ?_ _) | (with_reducible refine Kd.C_drewN ?_ _) | (with_reducible refine Kd.C_drew ?_))); (case side2 => exact (Kd.R_reads' HO_13.out).2.1); rintro e w39 ⟨rfl, hb⟩; have n0_ := Aside0.mk (Kd.R_below (by (with_reducible repeat (first | apply Kd.R_alloc | apply Kd.R_drewN | apply Kd.R_drew)); exact HO_11.out) hb); have n1_ := Aside0.mk (Kd.R_below (by (with_reducible repeat (first | apply Kd.R_alloc | apply Kd.R_drewN | apply Kd.R_drew)); exact HO_13.out) hb); have n2_ := Aside0.mk (below_step (by repeat (first | (with_reducible first | exact HB.out | apply below_alloc | apply pw_below_drewN | apply below_drew1) | exact HB.out)) hb); clear HO_11; clear HO_13; clear HB; have HO_11 := n0_; have HO_13 := n1_; have HB := n2_; clear n0_ n1_ n2_; (try clear hb); (try clear hb2); (try clear hk); (try clear hi)) | (go_at_call 10; (with_reducible refine (switchboardlaw16_awake.calls k3  t201 _ A38.out).mono ?_); rintro e w40 ⟨rfl, hb⟩; have n0_ := Aside0.mk (Kd.R_below (by (with_reducible repeat (first | apply Kd.R_alloc | apply Kd.R_drewN | apply Kd.R_drew)); exact HO_11.out) hb); have n1_ := Aside0.mk (Kd.R_below (by (with_reducible repeat (first | apply Kd.R_alloc | apply Kd.R_drewN | apply Kd.R_drew)); exact HO_13.out) hb); have n2_ := Aside0.mk (below_step (by repeat (first | (with_reducible first | exact HB.out | apply below_alloc | apply pw_below_drewN | apply below_drew1) | exact HB.out)) hb); clear HO_11; clear HO_13; clear HB; have HO_11 := n0_; have HO_13 := n1_; have HB := n2_; clear n0_ n1_ n2_; (try clear hb); (try clear hb2); (try clear hk); (try clear hi)))
                        repeat (go_quiet (first | (go_at_call 14; (with_reducible refine (chunk_Join.calls _ _ x13_1 t200 _ ?side1 ?side2 A36.out).mono ?_); (case side1 => repeat (first | exact (Kd.R_reads' HO_13.out).2.2 | (with_reducible refine Kd.C_alloc ?_ _) | (with_reducible refine Kd.C_drewN ?_ _) | (with_reducible refine Kd.C_drew ?_))); (case side2 => exact (Kd.R_reads' HO_13.out).2.1); rintro e w39 ⟨rfl, hb⟩; have n0_ := Aside0.mk (Kd.R_below (by (with_reducible repeat (first | apply Kd.R_alloc | apply Kd.R_drewN | apply Kd.R_drew)); exact HO_11.out) hb); have n1_ := Aside0.mk (Kd.R_below (by (with_reducible repeat (first | apply Kd.R_alloc | apply Kd.R_drewN | apply Kd.R_drew)); exact HO_13.out) hb); have n2_ := Aside0.mk (below_step (by repeat (first | (with_reducible first | exact HB.out | apply below_alloc | apply pw_below_drewN | apply below_drew1) | exact HB.out)) hb); clear HO_11; clear HO_13; clear HB; have HO_11 := n0_; have HO_13 := n1_; have HB := n2_; clear n0_ n1_ n2_; (try clear hb); (try clear hb2); (try clear hk); (try clear hi)) | (go_at_call 10; (with_reducible refine (switchboardlaw16_awake.calls k3  t201 _ A38.out).mono ?_); rintro e w40 ⟨rfl, hb⟩; have n0_ := Aside0.mk (Kd.R_below (by (with_reducible repeat (first | apply Kd.R_alloc | apply Kd.R_drewN | apply Kd.R_drew)); exact HO_11.out) hb); have n1_ := Aside0.mk (Kd.R_below (by (with_reducible repeat (first | apply Kd.R_alloc | apply Kd.R_drewN | apply Kd.R_drew)); exact HO_13.out) hb); have n2_ := Aside0.mk (below_step (by repeat (first | (with_reducible first | exact HB.out | apply below_alloc | apply pw_below_drewN | apply below_drew1) | exact HB.out)) hb); clear HO_11; clear HO_13; clear HB; have HO_11 := n0_; have HO_13 := n1_; have HB := n2_; clear n0_ n1_ n2_; (try clear hb); (try clear hb2); (try clear hk); (try clear hi))); try go_wp2_with (first | (go_at_call 14; (with_reducible refine (chunk_Join.calls _ _ x13_1 t200 _ ?side1 ?side2 A36.out).mono ?_); (case side1 => repeat (first | exact (Kd.R_reads' HO_13.out).2.2 | (with_reducible refine Kd.C_alloc ?_ _) | (with_reducible refine Kd.C_drewN ?_ _) | (with_reducible refine Kd.C_drew ?_))); (case side2 => exact (Kd.R_reads' HO_13.out).2.1); rintro e w39 ⟨rfl, hb⟩; have n0_ := Aside0.mk (Kd.R_below (by (with_reducible repeat (first | apply Kd.R_alloc | apply Kd.R_drewN | apply Kd.R_drew)); exact HO_11.out) hb); have n1_ := Aside0.mk (Kd.R_below (by (with_reducible repeat (first | apply Kd.R_alloc | apply Kd.R_drewN | apply Kd.R_drew)); exact HO_13.out) hb); have n2_ := Aside0.mk (below_step (by repeat (first | (with_reducible first | exact HB.out | apply below_alloc | apply pw_below_drewN | apply below_drew1) | exact HB.out)) hb); clear HO_11; clear HO_13; clear HB; have HO_11 := n0_; have HO_13 := n1_; have HB := n2_; clear n0_ n1_ n2_; (try clear hb); (try clear hb2); (try clear hk); (try clear hi)) | (go_at_call 10; (with_reducible refine (switchboardlaw16_awake.calls k3  t201 _ A38.out).mono ?_); rintro e w40 ⟨rfl, hb⟩; have n0_ := Aside0.mk (Kd.R_below (by (with_reducible repeat (first | apply Kd.R_alloc | apply Kd.R_drewN | apply Kd.R_drew)); exact HO_11.out) hb); have n1_ := Aside0.mk (Kd.R_below (by (with_reducible repeat (first | apply Kd.R_alloc | apply Kd.R_drewN | apply Kd.R_drew)); exact HO_13.out) hb); have n2_ := Aside0.mk (below_step (by repeat (first | (with_reducible first | exact HB.out | apply below_alloc | apply pw_below_drewN | apply below_drew1) | exact HB.out)) hb); clear HO_11; clear HO_13; clear HB; have HO_11 := n0_; have HO_13 := n1_; have HB := n2_; clear n0_ n1_ n2_; (try clear hb); (try clear hb2); (try clear hk); (try clear hi))))
                        go_ret
                        exact ⟨by first | rfl | (simp [errW_none, errW_some] <;> rfl) | (simp [*, errW_none, errW_some] <;> rfl), by repeat (first | (with_reducible first | exact HB.out | apply below_alloc | apply pw_below_drewN | apply below_drew1) | exact HB.out)⟩
                      · rw [if_neg c37] at H
                        have c37b0 : (t200.toList == a0.toList) = false := beq_eq_false_iff_ne.mpr c37
                        have c37b1 : (t200.toList != a0.toList) = true := bne_iff_ne.mpr c37
                        obtain rfl := Option.some.inj H
                        go_wp2_with (first | (go_at_call 14; (with_reducible refine (chunk_Join.calls _ _ x13_1 t200 _ ?side1 ?side2 A36.out).mono ?_); (case side1 => repeat (first | exact (Kd.R_reads' HO_13.out).2.2 | (with_reducible refine Kd.C_alloc ?_ _) | (with_reducible refine Kd.C_drewN ?_ _) | (with_reducible refine Kd.C_drew ?_))); (case side2 => exact (Kd.R_reads' HO_13.out).2.1); rintro e w41 ⟨rfl, hb⟩; have n0_ := Aside0.mk (Kd.R_below (by (with_reducible repeat (first | apply Kd.R_alloc | apply Kd.R_drewN | apply Kd.R_drew)); exact HO_11.out) hb); have n1_ := Aside0.mk (Kd.R_below (by (with_reducible repeat (first | apply Kd.R_alloc | apply Kd.R_drewN | apply Kd.R_drew)); exact HO_13.out) hb); have n2_ := Aside0.mk (below_step (by repeat (first | (with_reducible first | exact HB.out | apply below_alloc | apply pw_below_drewN | apply below_drew1) | exact HB.out)) hb); clear HO_11; clear HO_13; clear HB; have HO_11 := n0_; have HO_13 := n1_; have HB := n2_; clear n0_ n1_ n2_; (try clear hb); (try clear hb2); (try clear hk); (try clear hi)))
                        repeat (go_quiet (first | (go_at_call 14; (with_reducible refine (chunk_Join.calls _ _ x13_1 t200 _ ?side1 ?side2 A36.out).mono ?_); (case side1 => repeat (first | exact (Kd.R_reads' HO_13.out).2.2 | (with_reducible refine Kd.C_alloc ?_ _) | (with_reducible refine Kd.C_drewN ?_ _) | (with_reducible refine Kd.C_drew ?_))); (case side2 => exact (Kd.R_reads' HO_13.out).2.1); rintro e w41 ⟨rfl, hb⟩; have n0_ := Aside0.mk (Kd.R_below (by (with_reducible repeat (first | apply Kd.R_alloc | apply Kd.R_drewN | apply Kd.R_drew)); exact HO_11.out) hb); have n1_ := Aside0.mk (Kd.R_below (by (with_reducible repeat (first | apply Kd.R_alloc | apply Kd.R_drewN | apply Kd.R_drew)); exact HO_13.out) hb); have n2_ := Aside0.mk (below_step (by repeat (first | (with_reducible first | exact HB.out | apply below_alloc | apply pw_below_drewN | apply below_drew1) | exact HB.out)) hb); clear HO_11; clear HO_13; clear HB; have HO_11 := n0_; have HO_13 := n1_; have HB := n2_; clear n0_ n1_ n2_; (try clear hb); (try clear hb2); (try clear hk); (try clear hi))); try go_wp2_with (first | (go_at_call 14; (with_reducible refine (chunk_Join.calls _ _ x13_1 t200 _ ?side1 ?side2 A36.out).mono ?_); (case side1 => repeat (first | exact (Kd.R_reads' HO_13.out).2.2 | (with_reducible refine Kd.C_alloc ?_ _) | (with_reducible refine Kd.C_drewN ?_ _) | (with_reducible refine Kd.C_drew ?_))); (case side2 => exact (Kd.R_reads' HO_13.out).2.1); rintro e w41 ⟨rfl, hb⟩; have n0_ := Aside0.mk (Kd.R_below (by (with_reducible repeat (first | apply Kd.R_alloc | apply Kd.R_drewN | apply Kd.R_drew)); exact HO_11.out) hb); have n1_ := Aside0.mk (Kd.R_below (by (with_reducible repeat (first | apply Kd.R_alloc | apply Kd.R_drewN | apply Kd.R_drew)); exact HO_13.out) hb); have n2_ := Aside0.mk (below_step (by repeat (first | (with_reducible first | exact HB.out | apply below_alloc | apply pw_below_drewN | apply below_drew1) | exact HB.out)) hb); clear HO_11; clear HO_13; clear HB; have HO_11 := n0_; have HO_13 := n1_; have HB := n2_; clear n0_ n1_ n2_; (try clear hb); (try clear hb2); (try clear hk); (try clear hi))))
                        go_ret
                        exact ⟨by first | rfl | (simp [errW_none, errW_some] <;> rfl) | (simp [*, errW_none, errW_some] <;> rfl), by repeat (first | (with_reducible first | exact HB.out | apply below_alloc | apply pw_below_drewN | apply below_drew1) | exact HB.out)⟩

/-- THE ONE PURE STATEMENT of switchboardlaw16_ChunkTwice: yours. -/
def switchboardlaw16_ChunkTwice.Pure : Prop := ∀ (a0 : ByteArray) (a1 : Int) (a2 : Int), a0.size ≤ 140737488351232 → (Lit.int .u8 a1).wf = true → (Lit.int .u8 a2).wf = true → ∃ k, switchboardlaw16_ChunkTwice.f k a0 a1 a2 = some true
theorem switchboardlaw16_ChunkTwice.walk (P : switchboardlaw16_ChunkTwice.Pure) (a0 : ByteArray) (a1 : Int) (a2 : Int) (w : World) (w0 : a0.size ≤ 140737488351232) (w1 : (Lit.int .u8 a1).wf = true) (w2 : (Lit.int .u8 a2).wf = true) :
    Calls Try.prog 4 #[.string a0, .int .u8 a1, .int .u8 a2] w fun e w' => e = .returned (.bool true) ∧ Below w.heap.size w w' := by
  obtain ⟨k, h⟩ := P a0 a1 a2 w0 w1 w2
  refine (switchboardlaw16_ChunkTwice.calls k a0 a1 a2 true w h).mono ?_
  rintro e w' ⟨rfl, hd⟩
  exact ⟨rfl, hd⟩

end
end Go.Proofs.Ytdcojbamfchgiaa.QChunk
