-- Printed by a program of this session's own (wip/gen), which turns the kit's printer; not one of the kit's printed texts.
import Derived.Test.YtdcojbamfchgiaaQChunkx0
import Derived.Test.YtdcojbamfchgiaaQChunkx24
import Derived.Test.YtdcojbamfchgiaaQChunkx25
import Derived.Test.YtdcojbamfchgiaaQChunkx27
namespace Go.Proofs.Ytdcojbamfchgiaa.QChunk
open Go.RowKit Go.Proofs.Ytdcojbamfchgiaa.Given Go.Proofs.Ytdcojbamfchgiaa.Right Go.Proofs.Ytdcojbamfchgiaa.RExpert Go.Proofs.Ytdcojbamfchgiaa.Export Go.Proofs.Ytdcojbamfchgiaa.Join Go.Proofs.YtdcojbamfchgiaaW.PrintWords Go.Proofs.YtdcojbamfchgiaaW.PrintLast Go.Proofs.YtdcojbamfchgiaaW.PrintMore
attribute [local go_sem] max2_int min2_int max_two min_two max_three min_three max_four min_four   -- for this text's walks alone
set_option linter.unusedVariables false
set_option linter.unusedSimpArgs false
noncomputable section

/-! ### switchboardref16_Export: function 16 -/
def switchboardref16_Export.f (k : Nat) (l0_0 : List (List Int)) (l0_1 : List (List Int)) (a1 : Int) : Option (ByteArray) := (switchboardref16_four.f (l0_0.length : Int)).bind fun t225 => ((switchboardref16_four.f a1).bind fun t226 => (if t225.size + t226.size ≤ 9223372036854775807 then ((switchboardref16_all.f k l0_0).bind fun t227 => (if (t225 ++ t226).size + t227.size ≤ 9223372036854775807 then ((switchboardref16_all.f k l0_1).bind fun t228 => (if ((t225 ++ t226) ++ t227).size + t228.size ≤ 9223372036854775807 then ((switchboardref06_Sum.f k (((t225 ++ t226) ++ t227) ++ t228)).bind fun t229 => ((switchboardref16_four.f t229).bind fun t230 => (if (((t225 ++ t226) ++ t227) ++ t228).size + t230.size ≤ 9223372036854775807 then (some ((((t225 ++ t226) ++ t227) ++ t228) ++ t230)) else (none)))) else (none))) else (none))) else (none)))
theorem switchboardref16_Export.mono : ∀ a0 a1 a2 k, LeO (switchboardref16_Export.f k a0 a1 a2) (switchboardref16_Export.f (k + 1) a0 a1 a2) := by
 intro a0 a1 a2 k
 unfold switchboardref16_Export.f
 repeat' first
   | (with_reducible exact switchboardref06_Sum.mono _ _)
   | (with_reducible exact switchboardref16_all.mono _ _)
   | (with_reducible exact LeO.refl _)
   | (with_reducible exact LeO.none _)
   | (with_reducible refine LeO.ite ?_ ?_)
   | (with_reducible refine LeO.bind ?_ (fun _ => ?_))
   | exact switchboardref06_Sum.mono _ _
   | exact switchboardref16_all.mono _ _
   | exact LeO.none _
   | refine LeO.ite ?_ ?_
   | refine LeO.bind ?_ (fun _ => ?_)
def switchboardref16_Export.T1 : Bool × List (List Nat × List Nat) := (true, [([], []), ([0], [0]), ([1], [1]), ([2], [2]), ([], []), ([4, 3], [4]), ([3, 5], [3, 5]), ([], []), ([7], [7]), ([8, 5], [8]), ([6, 9], [6, 9]), ([], []), ([11], [11]), ([12, 9], [12]), ([10, 13], [10, 13]), ([14, 13, 0, 1, 2, 3, 4, 5, 6, 7, 8, 9, 10, 11, 12, 13, 14], [14])])
def switchboardref16_Export.B1 : List Nat := [0, 1, 3, 7, 0, 31, 63, 0, 128, 447, 1023, 0, 2048, 7103, 16383, 32767]
theorem switchboardref16_Export.tab1 : rtab .any (opsOf Try.f16 1) = switchboardref16_Export.T1 := by kernel_rfl
theorem switchboardref16_Export.bits1 : waitsOk switchboardref16_Export.T1.2 switchboardref16_Export.B1 = true := by kernel_rfl
set_option maxHeartbeats 8000000 in
set_option maxRecDepth 100000 in
theorem switchboardref16_Export.calls (k : Nat) (A0_0 : Option Addr) (c0_0 : Nat) (l0_0 : List (List Int)) (A0_1 : Option Addr) (c0_1 : Nat) (l0_1 : List (List Int)) (a1 : Int) (r : ByteArray) (w : World) (hr0_0 : Kd.C (Kd.slice 3 (Kd.int .i64)) w A0_0 l0_0.length l0_0) (hc0_0 : l0_0.length ≤ c0_0) (hr0_1 : Kd.C (Kd.slice 3 (Kd.int .i64)) w A0_1 l0_1.length l0_1) (hc0_1 : l0_1.length ≤ c0_1) (h : switchboardref16_Export.f k l0_0 l0_1 a1 = some r) :
  Calls Try.prog 16 #[.agg #[.slice A0_0 l0_0.length c0_0, .slice A0_1 l0_1.length c0_1], .int .i64 a1] w fun e w' => e = .returned (.string r) ∧ Below w.heap.size w w' := by
 have hu24 := Try.underlying24
 have HR0_0 := Aside0.mk hr0_0
 have HC0_0 := Aside0.mk hc0_0
 clear hr0_0 hc0_0
 have HR0_1 := Aside0.mk hr0_1
 have HC0_1 := Aside0.mk hc0_1
 clear hr0_1 hc0_1
 have HB := Aside0.mk (Below.refl w.heap.size w)
 have H : ((switchboardref16_four.f (l0_0.length : Int)).bind fun t225 => ((switchboardref16_four.f a1).bind fun t226 => (if t225.size + t226.size ≤ 9223372036854775807 then ((switchboardref16_all.f k l0_0).bind fun t227 => (if (t225 ++ t226).size + t227.size ≤ 9223372036854775807 then ((switchboardref16_all.f k l0_1).bind fun t228 => (if ((t225 ++ t226) ++ t227).size + t228.size ≤ 9223372036854775807 then ((switchboardref06_Sum.f k (((t225 ++ t226) ++ t227) ++ t228)).bind fun t229 => ((switchboardref16_four.f t229).bind fun t230 => (if (((t225 ++ t226) ++ t227) ++ t228).size + t230.size ≤ 9223372036854775807 then (some ((((t225 ++ t226) ++ t227) ++ t228) ++ t230)) else (none)))) else (none))) else (none))) else (none)))) = some r := h
 clear h
 replace H := Option.bind_eq_some_iff.mp H
 obtain ⟨t225, A30, H⟩ := H
 replace H : ((switchboardref16_four.f a1).bind fun t226 => (if t225.size + t226.size ≤ 9223372036854775807 then ((switchboardref16_all.f k l0_0).bind fun t227 => (if (t225 ++ t226).size + t227.size ≤ 9223372036854775807 then ((switchboardref16_all.f k l0_1).bind fun t228 => (if ((t225 ++ t226) ++ t227).size + t228.size ≤ 9223372036854775807 then ((switchboardref06_Sum.f k (((t225 ++ t226) ++ t227) ++ t228)).bind fun t229 => ((switchboardref16_four.f t229).bind fun t230 => (if (((t225 ++ t226) ++ t227) ++ t228).size + t230.size ≤ 9223372036854775807 then (some ((((t225 ++ t226) ++ t227) ++ t228) ++ t230)) else (none)))) else (none))) else (none))) else (none))) = some r := H
 have A3 := Aside0.mk A30
 clear A30
 replace H := Option.bind_eq_some_iff.mp H
 obtain ⟨t226, A40, H⟩ := H
 replace H : (if t225.size + t226.size ≤ 9223372036854775807 then ((switchboardref16_all.f k l0_0).bind fun t227 => (if (t225 ++ t226).size + t227.size ≤ 9223372036854775807 then ((switchboardref16_all.f k l0_1).bind fun t228 => (if ((t225 ++ t226) ++ t227).size + t228.size ≤ 9223372036854775807 then ((switchboardref06_Sum.f k (((t225 ++ t226) ++ t227) ++ t228)).bind fun t229 => ((switchboardref16_four.f t229).bind fun t230 => (if (((t225 ++ t226) ++ t227) ++ t228).size + t230.size ≤ 9223372036854775807 then (some ((((t225 ++ t226) ++ t227) ++ t228) ++ t230)) else (none)))) else (none))) else (none))) else (none)) = some r := H
 have A4 := Aside0.mk A40
 clear A40
 by_cases c5 : t225.size + t226.size ≤ 9223372036854775807
 ·rw [if_pos c5] at H
  have c5b0 := eq_true c5
  have c5b1 : decide (t225.size + t226.size ≤ 9223372036854775807) = true := decide_eq_true c5
  try have c5b2 : (9223372036854775807 < t225.size + t226.size) = False := eq_false (Nat.not_lt.2 c5)
  replace H := Option.bind_eq_some_iff.mp H
  obtain ⟨t227, A60, H⟩ := H
  replace H : (if (t225 ++ t226).size + t227.size ≤ 9223372036854775807 then ((switchboardref16_all.f k l0_1).bind fun t228 => (if ((t225 ++ t226) ++ t227).size + t228.size ≤ 9223372036854775807 then ((switchboardref06_Sum.f k (((t225 ++ t226) ++ t227) ++ t228)).bind fun t229 => ((switchboardref16_four.f t229).bind fun t230 => (if (((t225 ++ t226) ++ t227) ++ t228).size + t230.size ≤ 9223372036854775807 then (some ((((t225 ++ t226) ++ t227) ++ t228) ++ t230)) else (none)))) else (none))) else (none)) = some r := H
  have A6 := Aside0.mk A60
  clear A60
  by_cases c7 : (t225 ++ t226).size + t227.size ≤ 9223372036854775807
  ·rw [if_pos c7] at H
   have c7b0 := eq_true c7
   have c7b1 : decide ((t225 ++ t226).size + t227.size ≤ 9223372036854775807) = true := decide_eq_true c7
   try have c7b2 : (9223372036854775807 < (t225 ++ t226).size + t227.size) = False := eq_false (Nat.not_lt.2 c7)
   try have c7b4 := c7b2
   try simp only [ByteArray.size_append] at c7b4
   replace H := Option.bind_eq_some_iff.mp H
   obtain ⟨t228, A80, H⟩ := H
   replace H : (if ((t225 ++ t226) ++ t227).size + t228.size ≤ 9223372036854775807 then ((switchboardref06_Sum.f k (((t225 ++ t226) ++ t227) ++ t228)).bind fun t229 => ((switchboardref16_four.f t229).bind fun t230 => (if (((t225 ++ t226) ++ t227) ++ t228).size + t230.size ≤ 9223372036854775807 then (some ((((t225 ++ t226) ++ t227) ++ t228) ++ t230)) else (none)))) else (none)) = some r := H
   have A8 := Aside0.mk A80
   clear A80
   by_cases c9 : ((t225 ++ t226) ++ t227).size + t228.size ≤ 9223372036854775807
   ·rw [if_pos c9] at H
    have c9b0 := eq_true c9
    have c9b1 : decide (((t225 ++ t226) ++ t227).size + t228.size ≤ 9223372036854775807) = true := decide_eq_true c9
    try have c9b2 : (9223372036854775807 < ((t225 ++ t226) ++ t227).size + t228.size) = False := eq_false (Nat.not_lt.2 c9)
    try have c9b4 := c9b2
    try simp only [ByteArray.size_append] at c9b4
    replace H := Option.bind_eq_some_iff.mp H
    obtain ⟨t229, A100, H⟩ := H
    replace H : ((switchboardref16_four.f t229).bind fun t230 => (if (((t225 ++ t226) ++ t227) ++ t228).size + t230.size ≤ 9223372036854775807 then (some ((((t225 ++ t226) ++ t227) ++ t228) ++ t230)) else (none))) = some r := H
    have A10 := Aside0.mk A100
    clear A100
    replace H := Option.bind_eq_some_iff.mp H
    obtain ⟨t230, A110, H⟩ := H
    replace H : (if (((t225 ++ t226) ++ t227) ++ t228).size + t230.size ≤ 9223372036854775807 then (some ((((t225 ++ t226) ++ t227) ++ t228) ++ t230)) else (none)) = some r := H
    have A11 := Aside0.mk A110
    clear A110
    by_cases c12 : (((t225 ++ t226) ++ t227) ++ t228).size + t230.size ≤ 9223372036854775807
    ·rw [if_pos c12] at H
     have c12b0 := eq_true c12
     have c12b1 : decide ((((t225 ++ t226) ++ t227) ++ t228).size + t230.size ≤ 9223372036854775807) = true := decide_eq_true c12
     try have c12b2 : (9223372036854775807 < (((t225 ++ t226) ++ t227) ++ t228).size + t230.size) = False := eq_false (Nat.not_lt.2 c12)
     try have c12b4 := c12b2
     try simp only [ByteArray.size_append] at c12b4
     obtain rfl := Option.some.inj H
     go_enter Try.func16, Try.ntmps16
     try go_wp2_with (first|((with_reducible refine gate_dst (N := 2) rfl ?_);refine box_event ?hg (N := 2) ?hd (cs := #[.slice A0_0 l0_0.length c0_0, .slice A0_1 l0_1.length c0_1]) (t := 24) ?hr ?_;(case hd => rfl);(case hg => rfl);(case hr => first|(go_simp;done)|(go_simp;rfl));intro gb224 hg w13 hbox hb;have n0_ := Aside0.mk (below_step (by repeat (first|(with_reducible first|exact HB.out|apply below_alloc|apply pw_below_drewN|apply below_drew1)|exact HB.out)) hb);have n1_ := Aside0.mk (hbox);have n2_ := Aside0.mk ((by rw [hg];exact (below_size (by repeat (first|(with_reducible first|exact HB.out|apply below_alloc|apply pw_below_drewN|apply below_drew1)|exact HB.out))) : w.heap.size ≤ gb224));have n3_ := Aside0.mk ((by rw [hg];exact (below_size (by repeat (first|(with_reducible first|exact HB.out|apply below_alloc|apply pw_below_drewN|apply below_drew1)|exact HB.out))) : w.heap.size ≤ gb224));clear HB;have HB := n0_;have BK224 := n1_;have GW224 := n2_;have GE224 := n3_;clear n0_ n1_ n2_ n3_;clear hb hbox hg))
     have n0_ := Aside0.mk (blk_drew BK224.out)
     have n1_ := Aside0.mk (below_drew1 HB.out)
     clear BK224
     clear HB
     have BK224 := n0_
     have HB := n1_
     clear n0_ n1_
     refine start_ (n := 16) (S := fun w' => w'.cell? ⟨gb224, 0, none⟩ = some (.slice A0_0 l0_0.length c0_0) ∧ w'.cell? ⟨gb224, 1, none⟩ = some (.slice A0_1 l0_1.length c0_1)) (ds := []) #[false, false, false, false, false, false, false, false, false, false, false, false, false, false, false, false] (by kernel_rfl) rfl rfl ⟨(blk_cell BK224.out 0).trans rfl, (blk_cell BK224.out 1).trans rfl⟩ (fun hHeld => ?_); refine with_tabW switchboardref16_Export.tab1 switchboardref16_Export.bits1 (fun HT_ HW_ => ?_)
     generalize w13.drew = w14 at BK224 HB hHeld ⊢
     refine pure_ (i := 0) (N := some 6) (v := ?_) (a' := ?_) #[true, false, false, false, false, false, false, false, false, false, false, false, false, false, false, false] rfl rfl (any_of HT_.out (by kernel_rfl)) (fun _ _ _ h => h) (Or.inl ⟨by rfl, ?_⟩) ?_ ?_
     rotate_left
     ·intro w'
      go_simp
      with_reducible rfl
     rotate_left
     ·simp only [Act.put, List.setIfInBounds_toArray, List.set_cons_zero, List.set_cons_succ, i64_w, i32_w]
      rfl
     refine pure_ (i := 4) (N := some 10) (v := ?_) (a' := ?_) #[true, false, false, false, true, false, false, false, false, false, false, false, false, false, false, false] rfl rfl (any_of HT_.out (by kernel_rfl)) (fun _ _ _ h => h) (Or.inl ⟨by rfl, ?_⟩) ?_ ?_
     rotate_left
     ·intro w'
      go_simp
      with_reducible rfl
     rotate_left
     ·simp only [Act.put, List.setIfInBounds_toArray, List.set_cons_zero, List.set_cons_succ, i64_w, i32_w]
      rfl
     refine pure_ (i := 7) (N := some 13) (v := ?_) (a' := ?_) #[true, false, false, false, true, false, false, true, false, false, false, false, false, false, false, false] rfl rfl (any_of HT_.out (by kernel_rfl)) (fun _ _ _ h => h) (Or.inl ⟨by rfl, ?_⟩) ?_ ?_
     rotate_left
     ·intro w'
      go_simp
      with_reducible rfl
     rotate_left
     ·simp only [Act.put, List.setIfInBounds_toArray, List.set_cons_zero, List.set_cons_succ, i64_w, i32_w]
      rfl
     refine pure_ (i := 11) (N := some 17) (v := ?_) (a' := ?_) #[true, false, false, false, true, false, false, true, false, false, false, true, false, false, false, false] rfl rfl (any_of HT_.out (by kernel_rfl)) (fun _ _ _ h => h) (Or.inl ⟨by rfl, ?_⟩) ?_ ?_
     rotate_left
     ·intro w'
      go_simp
      with_reducible rfl
     rotate_left
     ·simp only [Act.put, List.setIfInBounds_toArray, List.set_cons_zero, List.set_cons_succ, i64_w, i32_w]
      rfl
     refine take_ (i := 1) (N := some 7) (v := ?_) (a' := ?_) #[true, true, false, false, true, false, false, true, false, false, false, true, false, false, false, false] rfl rfl (take_ofW HT_.out HW_.out (by kernel_rfl)) (fun _ _ _ h => h) (Or.inl ⟨by rfl, ?_⟩) hHeld ?_ ?_
     rotate_left
     ·rintro w' ⟨s0, s1⟩
      go_simp
      with_reducible rfl
     rotate_left
     ·simp only [Act.put, List.setIfInBounds_toArray, List.set_cons_zero, List.set_cons_succ, i64_w, i32_w]
      rfl
     refine pure_ (i := 2) (N := some 8) (v := ?_) (a' := ?_) #[true, true, true, false, true, false, false, true, false, false, false, true, false, false, false, false] rfl rfl (any_of HT_.out (by kernel_rfl)) (fun _ _ _ h => h) (Or.inl ⟨by rfl, ?_⟩) ?_ ?_
     rotate_left
     ·intro w'
      go_simp
      with_reducible rfl
     rotate_left
     ·simp only [Act.put, List.setIfInBounds_toArray, List.set_cons_zero, List.set_cons_succ, i64_w, i32_w]
      rfl
     refine take_ (i := 8) (N := some 14) (v := ?_) (a' := ?_) #[true, true, true, false, true, false, false, true, true, false, false, true, false, false, false, false] rfl rfl (take_ofW HT_.out HW_.out (by kernel_rfl)) (fun _ _ _ h => h) (Or.inl ⟨by rfl, ?_⟩) hHeld ?_ ?_
     rotate_left
     ·rintro w' ⟨s0, s1⟩
      go_simp
      with_reducible rfl
     rotate_left
     ·simp only [Act.put, List.setIfInBounds_toArray, List.set_cons_zero, List.set_cons_succ, i64_w, i32_w]
      rfl
     refine take_ (i := 12) (N := some 18) (v := ?_) (a' := ?_) #[true, true, true, false, true, false, false, true, true, false, false, true, true, false, false, false] rfl rfl (take_ofW HT_.out HW_.out (by kernel_rfl)) (fun _ _ _ h => h) (Or.inl ⟨by rfl, ?_⟩) hHeld ?_ ?_
     rotate_left
     ·rintro w' ⟨s0, s1⟩
      go_simp
      with_reducible rfl
     rotate_left
     ·simp only [Act.put, List.setIfInBounds_toArray, List.set_cons_zero, List.set_cons_succ, i64_w, i32_w]
      rfl
     refine one_ (i := 3) (N := some 9) #[true, true, true, true, true, false, false, true, true, false, false, true, true, false, false, false] rfl rfl (one_of HT_.out (by kernel_rfl)) (by decide) (fun K hK => ?_)
     refine goes_ Try.func27 (by kernel_rfl) rfl #[.int .i64 (l0_0.length : Int)] (by rfl) rfl rfl (by (try simp only [List.map_toArray, List.map_cons, List.map_nil]); first | done | rfl | (simp only [ByteArray.size_append, Int.natCast_add, List.length_drop, List.length_take]; first | done | rfl) | (simp only [List.length_drop, List.length_take]; rfl)) ?_
     with_reducible refine (switchboardref16_four.calls (l0_0.length : Int) t225 _ A3.out).mono ?_
     rintro e w15 ⟨rfl, hb⟩
     refine ⟨_, rfl, ?_⟩
     have n0_ := Aside0.mk (blk_below (g := gb224) (o := .cells #[.slice A0_0 l0_0.length c0_0, .slice A0_1 l0_1.length c0_1] 24 (0, 0)) (by (with_reducible repeat (first | refine blk_drewN ?_ _ | refine blk_drew ?_ | refine blk_alloc ?_ _)); exact BK224.out) hb)
     have n1_ := Aside0.mk (below_step (by repeat (first | (with_reducible first | exact HB.out | apply below_alloc | apply pw_below_drewN | apply below_drew1 | refine below_set ?_ GE224.out) | exact HB.out)) hb)
     clear BK224
     clear HB
     have BK224 := n0_
     have HB := n1_
     clear n0_ n1_
     (try clear hb)
     (try clear hb2)
     (try clear hk)
     (try clear hi)
     refine hK.out _ _ ⟨(blk_cell BK224.out 0).trans rfl, (blk_cell BK224.out 1).trans rfl⟩ (fun hHeld => ?_)
     clear hK K
     refine norm_ (a' := ?_) ?_ ?_
     rotate_left
     ·show Act.put _ (some 9) _ = _
      simp only [Act.put, List.setIfInBounds_toArray, List.set_cons_zero, List.set_cons_succ, i64_w, i32_w]
      rfl
     refine one_ (i := 5) (N := some 11) #[true, true, true, true, true, true, false, true, true, false, false, true, true, false, false, false] rfl rfl (one_of HT_.out (by kernel_rfl)) (by decide) (fun K hK => ?_)
     refine goes_ Try.func27 (by kernel_rfl) rfl #[.int .i64 a1] (by rfl) rfl rfl (by (try simp only [List.map_toArray, List.map_cons, List.map_nil]); first | done | rfl | (simp only [ByteArray.size_append, Int.natCast_add, List.length_drop, List.length_take]; first | done | rfl) | (simp only [List.length_drop, List.length_take]; rfl)) ?_
     with_reducible refine (switchboardref16_four.calls a1 t226 _ A4.out).mono ?_
     rintro e w16 ⟨rfl, hb⟩
     refine ⟨_, rfl, ?_⟩
     have n0_ := Aside0.mk (blk_below (g := gb224) (o := .cells #[.slice A0_0 l0_0.length c0_0, .slice A0_1 l0_1.length c0_1] 24 (0, 0)) (by (with_reducible repeat (first | refine blk_drewN ?_ _ | refine blk_drew ?_ | refine blk_alloc ?_ _)); exact BK224.out) hb)
     have n1_ := Aside0.mk (below_step (by repeat (first | (with_reducible first | exact HB.out | apply below_alloc | apply pw_below_drewN | apply below_drew1 | refine below_set ?_ GE224.out) | exact HB.out)) hb)
     clear BK224
     clear HB
     have BK224 := n0_
     have HB := n1_
     clear n0_ n1_
     (try clear hb)
     (try clear hb2)
     (try clear hk)
     (try clear hi)
     refine hK.out _ _ ⟨(blk_cell BK224.out 0).trans rfl, (blk_cell BK224.out 1).trans rfl⟩ (fun hHeld => ?_)
     clear hK K
     refine norm_ (a' := ?_) ?_ ?_
     rotate_left
     ·show Act.put _ (some 11) _ = _
      simp only [Act.put, List.setIfInBounds_toArray, List.set_cons_zero, List.set_cons_succ, i64_w, i32_w]
      rfl
     refine pure_ (i := 6) (N := some 12) (v := ?_) (a' := ?_) #[true, true, true, true, true, true, true, true, true, false, false, true, true, false, false, false] rfl rfl (any_of HT_.out (by kernel_rfl)) (fun _ _ _ h => h) (Or.inl ⟨by rfl, ?_⟩) ?_ ?_
     rotate_left
     ·intro w'
      go_simp
      with_reducible rfl
     rotate_left
     ·simp only [Act.put, List.setIfInBounds_toArray, List.set_cons_zero, List.set_cons_succ, i64_w, i32_w]
      rfl
     refine one_ (i := 9) (N := some 15) #[true, true, true, true, true, true, true, true, true, true, false, true, true, false, false, false] rfl rfl (one_of HT_.out (by kernel_rfl)) (by decide) (fun K hK => ?_)
     refine goes_ Try.func28 (by kernel_rfl) rfl #[.slice A0_0 l0_0.length c0_0] (by rfl) rfl rfl (by (try simp only [List.map_toArray, List.map_cons, List.map_nil]); first | done | rfl | (simp only [ByteArray.size_append, Int.natCast_add, List.length_drop, List.length_take]; first | done | rfl) | (simp only [List.length_drop, List.length_take]; rfl)) ?_
     with_reducible refine (switchboardref16_all.calls k _ _ l0_0 t227 _ ?side1 ?side2 A6.out).mono ?_
     (case side1 => repeat (first | exact (Kd.C_below HR0_0.out HB.out) | (with_reducible refine Kd.C_alloc ?_ _) | (with_reducible refine Kd.C_drewN ?_ _) | (with_reducible refine Kd.C_drew ?_)))
     (case side2 => exact HC0_0.out)
     rintro e w17 ⟨rfl, hb⟩
     refine ⟨_, rfl, ?_⟩
     have n0_ := Aside0.mk (blk_below (g := gb224) (o := .cells #[.slice A0_0 l0_0.length c0_0, .slice A0_1 l0_1.length c0_1] 24 (0, 0)) (by (with_reducible repeat (first | refine blk_drewN ?_ _ | refine blk_drew ?_ | refine blk_alloc ?_ _)); exact BK224.out) hb)
     have n1_ := Aside0.mk (below_step (by repeat (first | (with_reducible first | exact HB.out | apply below_alloc | apply pw_below_drewN | apply below_drew1 | refine below_set ?_ GE224.out) | exact HB.out)) hb)
     clear BK224
     clear HB
     have BK224 := n0_
     have HB := n1_
     clear n0_ n1_
     (try clear hb)
     (try clear hb2)
     (try clear hk)
     (try clear hi)
     refine hK.out _ _ ⟨(blk_cell BK224.out 0).trans rfl, (blk_cell BK224.out 1).trans rfl⟩ (fun hHeld => ?_)
     clear hK K
     refine norm_ (a' := ?_) ?_ ?_
     rotate_left
     ·show Act.put _ (some 15) _ = _
      simp only [Act.put, List.setIfInBounds_toArray, List.set_cons_zero, List.set_cons_succ, i64_w, i32_w]
      rfl
     refine pure_ (i := 10) (N := some 16) (v := ?_) (a' := ?_) #[true, true, true, true, true, true, true, true, true, true, true, true, true, false, false, false] rfl rfl (any_of HT_.out (by kernel_rfl)) (fun _ _ _ h => h) (Or.inl ⟨by rfl, ?_⟩) ?_ ?_
     rotate_left
     ·intro w'
      go_simp
      with_reducible rfl
     rotate_left
     ·simp only [Act.put, List.setIfInBounds_toArray, List.set_cons_zero, List.set_cons_succ, i64_w, i32_w]
      rfl
     refine one_ (i := 13) (N := some 19) #[true, true, true, true, true, true, true, true, true, true, true, true, true, true, false, false] rfl rfl (one_of HT_.out (by kernel_rfl)) (by decide) (fun K hK => ?_)
     refine goes_ Try.func28 (by kernel_rfl) rfl #[.slice A0_1 l0_1.length c0_1] (by rfl) rfl rfl (by (try simp only [List.map_toArray, List.map_cons, List.map_nil]); first | done | rfl | (simp only [ByteArray.size_append, Int.natCast_add, List.length_drop, List.length_take]; first | done | rfl) | (simp only [List.length_drop, List.length_take]; rfl)) ?_
     with_reducible refine (switchboardref16_all.calls k _ _ l0_1 t228 _ ?side1 ?side2 A8.out).mono ?_
     (case side1 => repeat (first | exact (Kd.C_below HR0_1.out HB.out) | (with_reducible refine Kd.C_alloc ?_ _) | (with_reducible refine Kd.C_drewN ?_ _) | (with_reducible refine Kd.C_drew ?_)))
     (case side2 => exact HC0_1.out)
     rintro e w18 ⟨rfl, hb⟩
     refine ⟨_, rfl, ?_⟩
     have n0_ := Aside0.mk (blk_below (g := gb224) (o := .cells #[.slice A0_0 l0_0.length c0_0, .slice A0_1 l0_1.length c0_1] 24 (0, 0)) (by (with_reducible repeat (first | refine blk_drewN ?_ _ | refine blk_drew ?_ | refine blk_alloc ?_ _)); exact BK224.out) hb)
     have n1_ := Aside0.mk (below_step (by repeat (first | (with_reducible first | exact HB.out | apply below_alloc | apply pw_below_drewN | apply below_drew1 | refine below_set ?_ GE224.out) | exact HB.out)) hb)
     clear BK224
     clear HB
     have BK224 := n0_
     have HB := n1_
     clear n0_ n1_
     (try clear hb)
     (try clear hb2)
     (try clear hk)
     (try clear hi)
     refine hK.out _ _ ⟨(blk_cell BK224.out 0).trans rfl, (blk_cell BK224.out 1).trans rfl⟩ (fun hHeld => ?_)
     clear hK K
     refine norm_ (a' := ?_) ?_ ?_
     rotate_left
     ·show Act.put _ (some 19) _ = _
      simp only [Act.put, List.setIfInBounds_toArray, List.set_cons_zero, List.set_cons_succ, i64_w, i32_w]
      rfl
     refine pure_ (i := 14) (N := some 20) (v := ?_) (a' := ?_) #[true, true, true, true, true, true, true, true, true, true, true, true, true, true, true, false] rfl rfl (any_of HT_.out (by kernel_rfl)) (fun _ _ _ h => h) (Or.inl ⟨by rfl, ?_⟩) ?_ ?_
     rotate_left
     ·intro w'
      go_simp
      with_reducible rfl
     rotate_left
     ·simp only [Act.put, List.setIfInBounds_toArray, List.set_cons_zero, List.set_cons_succ, i64_w, i32_w]
      rfl
     refine pure_ (i := 15) (N := some 5) (v := ?_) (a' := ?_) #[true, true, true, true, true, true, true, true, true, true, true, true, true, true, true, true] rfl rfl (any_of HT_.out (by kernel_rfl)) (fun _ _ _ h => h) (Or.inl ⟨by rfl, ?_⟩) ?_ ?_
     rotate_left
     ·intro w'
      go_simp
      with_reducible rfl
     rotate_left
     ·simp only [Act.put, List.setIfInBounds_toArray, List.set_cons_zero, List.set_cons_succ, i64_w, i32_w]
      rfl
     refine done_ (done_of HT_.out (by kernel_rfl)) ?_
     try go_wp2_with (first|((with_reducible refine gate_callee (f := 29) rfl ?_);refine goesL_ (some 23) rfl rfl Try.func29 (by kernel_rfl) rfl #[.string (((t225 ++ t226) ++ t227) ++ t228)] rfl (by (try simp only [List.map_toArray, List.map_cons, List.map_nil]);first|done|rfl|(simp only [ByteArray.size_append, Int.natCast_add, List.length_drop, List.length_take];first|done|rfl)|(simp only [List.length_drop, List.length_take];rfl)) ?_;(with_reducible refine (switchboardref06_Sum.calls k (((t225 ++ t226) ++ t227) ++ t228) t229 _ A10.out).mono ?_);rintro e w' ⟨rfl, ⟨nd, rfl⟩⟩;refine ⟨_, rfl, ?_⟩)|((with_reducible refine gate_callee (f := 27) rfl ?_);refine goesL_ (some 24) rfl rfl Try.func27 (by kernel_rfl) rfl #[.int .i64 t229] rfl (by (try simp only [List.map_toArray, List.map_cons, List.map_nil]);first|done|rfl|(simp only [ByteArray.size_append, Int.natCast_add, List.length_drop, List.length_take];first|done|rfl)|(simp only [List.length_drop, List.length_take];rfl)) ?_;(with_reducible refine (switchboardref16_four.calls t229 t230 _ A11.out).mono ?_);rintro e w19 ⟨rfl, hb⟩;refine ⟨_, rfl, ?_⟩;have n0_ := Aside0.mk (blk_below (g := gb224) (o := .cells #[.slice A0_0 l0_0.length c0_0, .slice A0_1 l0_1.length c0_1] 24 (0, 0)) (by (with_reducible repeat (first|refine blk_drewN ?_ _|refine blk_drew ?_ |refine blk_alloc ?_ _));exact BK224.out) hb);have n1_ := Aside0.mk (below_step (by repeat (first|(with_reducible first|exact HB.out|apply below_alloc|apply pw_below_drewN|apply below_drew1|refine below_set ?_ GE224.out)|exact HB.out)) hb);clear BK224;clear HB;have BK224 := n0_;have HB := n1_;clear n0_ n1_;(try clear hb);(try clear hb2);(try clear hk);(try clear hi)))
     go_ret
     exact ⟨by first | rfl | (simp [errW_none, errW_some] <;> rfl) | (simp [*, errW_none, errW_some] <;> rfl), by repeat (first | (with_reducible first | exact HB.out | apply below_alloc | apply pw_below_drewN | apply below_drew1 | refine below_set ?_ GE224.out) | exact HB.out)⟩
    ·rw [if_neg c12] at H
     exact absurd H (by simp)
   ·rw [if_neg c9] at H
    exact absurd H (by simp)
  ·rw [if_neg c7] at H
   exact absurd H (by simp)
 ·rw [if_neg c5] at H
  exact absurd H (by simp)

end
end Go.Proofs.Ytdcojbamfchgiaa.QChunk
