-- Printed by a program of this session's own (wip/gen), which turns the kit's printer; not one of the kit's printed texts.
import Derived.Test.YtgfpkhihdahjlabQWirex0
import Derived.Test.YtgfpkhihdahjlabQWirex1
import Derived.Test.YtgfpkhihdahjlabQWirex2
import Derived.Test.YtgfpkhihdahjlabQWirex3
namespace Go.Proofs.Ytgfpkhihdahjlab.QWire
open Go.RowKit Go.Proofs.Ytgfpkhihdahjlab.Given Go.Proofs.YtgfpkhihdahjlabW.PrintWords Go.Proofs.YtgfpkhihdahjlabW.PrintLast Go.Proofs.YtgfpkhihdahjlabW.PrintMore
attribute [local go_sem] max2_int min2_int max_two min_two max_three min_three max_four min_four   -- for this text's walks alone
set_option linter.unusedVariables false
set_option linter.unusedSimpArgs false
noncomputable section

/-! ### wire_Put: function 19 -/
def wire_Put.l0 : Nat → ByteArray → List Int → Int → Int → Option (ByteArray × Int)
 | 0, _, _, _, _ => none
 | k + 1, x4, x19, x20, x21 => if x21 < x20 then (if 0 ≤ x21 then (if x21 < (x19.length : Int) then ((wire_four.f (rd x19 x21)).bind fun t129 => (if x4.size + t129.size ≤ 9223372036854775807 then (wire_Put.l0 k (x4 ++ t129) x19 x20 (wrap64 (x21 + 1))) else (none))) else (none)) else (none)) else ((crc_Sum.f x4).bind fun t130 => ((wire_four.f t130).bind fun t131 => (if x4.size + t131.size ≤ 9223372036854775807 then ((wire_four.f ((x4 ++ t131).size : Int)).bind fun t132 => (if t132.size + (x4 ++ t131).size ≤ 9223372036854775807 then (some (t132 ++ (x4 ++ t131), 0)) else (none))) else (none))))
def wire_Put.f (k : Nat) (a0_0 : Int) (a0_1 : Int) (a0_2 : Int) (a0_3 : Int) (a0_4 : Int) (a0_5 : Int) (a0_6 : Int) (a0_7 : Int) (a0_8 : Int) (a0_9 : Int) (l0_10 : List Int) : Option (ByteArray × Int) := (wire_Right.f k a0_0 a0_1 a0_2 a0_3 a0_4 a0_5 a0_6 a0_7 a0_8 a0_9 l0_10).bind fun t115 => (if t115 = true then ((wire_numbers.f a0_0 a0_1 a0_2 a0_3 a0_4 a0_5 a0_6 a0_7 a0_8 a0_9 l0_10).bind fun t116 => ((some (([(l0_10.length : Int)] : List Int) : List Int)).bind fun y119 => (if t116.length + y119.length < 17592186044416 then ((some (t116 ++ y119 : List Int)).bind fun y122 => (if y122.length + l0_10.length < 17592186044416 then ((some (y122 ++ l0_10 : List Int)).bind fun y125 => (wire_Put.l0 k (⟨#[]⟩ : ByteArray) y125 (y125.length : Int) 0)) else (none))) else (none)))) else (some ((⟨#[]⟩ : ByteArray), 1)))
theorem wire_Put.mono_l : ∀ k, (∀ y0 y1 y2 y3, LeO (wire_Put.l0 k y0 y1 y2 y3) (wire_Put.l0 (k + 1) y0 y1 y2 y3))
 | 0 => fun _ _ _ _ r h => by simp [wire_Put.l0] at h
 | k + 1 => by
  have ih0 := wire_Put.mono_l k
  ·intro y0 y1 y2 y3
   unfold wire_Put.l0
   repeat' first
   | (with_reducible exact ih0 _ _ _ _)
   | (with_reducible exact wire_Right.mono _ _ _ _ _ _ _ _ _ _ _ _)
   | (with_reducible exact LeO.refl _)
   | (with_reducible exact LeO.none _)
   | (with_reducible refine LeO.ite ?_ ?_)
   | (with_reducible refine LeO.bind ?_ (fun _ => ?_))
   | exact ih0 _ _ _ _
   | exact wire_Right.mono _ _ _ _ _ _ _ _ _ _ _ _
   | exact LeO.none _
   | refine LeO.ite ?_ ?_
   | refine LeO.bind ?_ (fun _ => ?_)
theorem wire_Put.mono : ∀ a0 a1 a2 a3 a4 a5 a6 a7 a8 a9 a10 k, LeO (wire_Put.f k a0 a1 a2 a3 a4 a5 a6 a7 a8 a9 a10) (wire_Put.f (k + 1) a0 a1 a2 a3 a4 a5 a6 a7 a8 a9 a10) := by
 intro a0 a1 a2 a3 a4 a5 a6 a7 a8 a9 a10 k
 have ih0 := wire_Put.mono_l k
 unfold wire_Put.f
 repeat' first
   | (with_reducible exact ih0 _ _ _ _)
   | (with_reducible exact wire_Right.mono _ _ _ _ _ _ _ _ _ _ _ _)
   | (with_reducible exact LeO.refl _)
   | (with_reducible exact LeO.none _)
   | (with_reducible refine LeO.ite ?_ ?_)
   | (with_reducible refine LeO.bind ?_ (fun _ => ?_))
   | exact ih0 _ _ _ _
   | exact wire_Right.mono _ _ _ _ _ _ _ _ _ _ _ _
   | exact LeO.none _
   | refine LeO.ite ?_ ?_
   | refine LeO.bind ?_ (fun _ => ?_)
def wire_Put.T4 : Bool × List (List Nat × List Nat) := (true, [([], []), ([0], [0]), ([], []), ([2], [2]), ([3], [3]), ([4], [4]), ([1, 5, 1], [1, 5]), ([], []), ([7], [7]), ([6, 8, 6], [6, 8]), ([9], [9]), ([], [])])
def wire_Put.B4 : List Nat := [0, 1, 0, 4, 12, 28, 63, 0, 128, 511, 1023, 0]
theorem wire_Put.tab4 : rtab .any (opsOf Try.f19 4) = wire_Put.T4 := by kernel_rfl
theorem wire_Put.bits4 : waitsOk wire_Put.T4.2 wire_Put.B4 = true := by kernel_rfl
set_option maxHeartbeats 8000000 in
set_option maxRecDepth 100000 in
theorem wire_Put.calls (k : Nat) (a0_0 : Int) (a0_1 : Int) (a0_2 : Int) (a0_3 : Int) (a0_4 : Int) (a0_5 : Int) (a0_6 : Int) (a0_7 : Int) (a0_8 : Int) (a0_9 : Int) (A0_10 : Option Addr) (c0_10 : Nat) (l0_10 : List Int) (r1 : ByteArray) (r2 : Int) (w : World) (hr0_10 : Kd.C (Kd.int .i64) w A0_10 l0_10.length l0_10) (hc0_10 : l0_10.length ≤ c0_10) (h : wire_Put.f k a0_0 a0_1 a0_2 a0_3 a0_4 a0_5 a0_6 a0_7 a0_8 a0_9 l0_10 = some (r1, r2)) :
  Calls Try.prog 19 #[.agg #[.int .i64 a0_0, .int .i64 a0_1, .int .i64 a0_2, .int .i64 a0_3, .int .i64 a0_4, .int .i64 a0_5, .int .i64 a0_6, .int .i64 a0_7, .int .i64 a0_8, .int .i64 a0_9, .slice A0_10 l0_10.length c0_10]] w fun e w' => e = .returned (.tuple #[.string r1, .int .i64 r2]) ∧ Below w.heap.size w w' := by
 have hu32 := Try.underlying32
 have HR0_10 := Aside0.mk hr0_10
 have HC0_10 := Aside0.mk hc0_10
 clear hr0_10 hc0_10
 have HB := Aside0.mk (Below.refl w.heap.size w)
 have H : ((wire_Right.f k a0_0 a0_1 a0_2 a0_3 a0_4 a0_5 a0_6 a0_7 a0_8 a0_9 l0_10).bind fun t115 => (if t115 = true then ((wire_numbers.f a0_0 a0_1 a0_2 a0_3 a0_4 a0_5 a0_6 a0_7 a0_8 a0_9 l0_10).bind fun t116 => ((some (([(l0_10.length : Int)] : List Int) : List Int)).bind fun y119 => (if t116.length + y119.length < 17592186044416 then ((some (t116 ++ y119 : List Int)).bind fun y122 => (if y122.length + l0_10.length < 17592186044416 then ((some (y122 ++ l0_10 : List Int)).bind fun y125 => (wire_Put.l0 k (⟨#[]⟩ : ByteArray) y125 (y125.length : Int) 0)) else (none))) else (none)))) else (some ((⟨#[]⟩ : ByteArray), 1)))) = some (r1, r2) := h
 clear h
 replace H := Option.bind_eq_some_iff.mp H
 obtain ⟨t115, A20, H⟩ := H
 replace H : (if t115 = true then ((wire_numbers.f a0_0 a0_1 a0_2 a0_3 a0_4 a0_5 a0_6 a0_7 a0_8 a0_9 l0_10).bind fun t116 => ((some (([(l0_10.length : Int)] : List Int) : List Int)).bind fun y119 => (if t116.length + y119.length < 17592186044416 then ((some (t116 ++ y119 : List Int)).bind fun y122 => (if y122.length + l0_10.length < 17592186044416 then ((some (y122 ++ l0_10 : List Int)).bind fun y125 => (wire_Put.l0 k (⟨#[]⟩ : ByteArray) y125 (y125.length : Int) 0)) else (none))) else (none)))) else (some ((⟨#[]⟩ : ByteArray), 1))) = some (r1, r2) := H
 have A2 := Aside0.mk A20
 clear A20
 by_cases c3 : t115 = true
 ·subst c3
  have H1 : ((wire_numbers.f a0_0 a0_1 a0_2 a0_3 a0_4 a0_5 a0_6 a0_7 a0_8 a0_9 l0_10).bind fun t116 => ((some (([(l0_10.length : Int)] : List Int) : List Int)).bind fun y119 => (if t116.length + y119.length < 17592186044416 then ((some (t116 ++ y119 : List Int)).bind fun y122 => (if y122.length + l0_10.length < 17592186044416 then ((some (y122 ++ l0_10 : List Int)).bind fun y125 => (wire_Put.l0 k (⟨#[]⟩ : ByteArray) y125 (y125.length : Int) 0)) else (none))) else (none)))) = some (r1, r2) := by rw [if_pos rfl] at H; exact H
  clear H
  have H := H1
  clear H1
  replace H := Option.bind_eq_some_iff.mp H
  obtain ⟨t116, A40, H⟩ := H
  replace H : ((some (([(l0_10.length : Int)] : List Int) : List Int)).bind fun y119 => (if t116.length + y119.length < 17592186044416 then ((some (t116 ++ y119 : List Int)).bind fun y122 => (if y122.length + l0_10.length < 17592186044416 then ((some (y122 ++ l0_10 : List Int)).bind fun y125 => (wire_Put.l0 k (⟨#[]⟩ : ByteArray) y125 (y125.length : Int) 0)) else (none))) else (none))) = some (r1, r2) := H
  have A4 := Aside0.mk A40
  clear A40
  obtain ⟨y119, hy119⟩ : ∃ y_ : List Int, y_ = (([(l0_10.length : Int)] : List Int)) := ⟨_, rfl⟩
  replace H : (if t116.length + y119.length < 17592186044416 then ((some (t116 ++ y119 : List Int)).bind fun y122 => (if y122.length + l0_10.length < 17592186044416 then ((some (y122 ++ l0_10 : List Int)).bind fun y125 => (wire_Put.l0 k (⟨#[]⟩ : ByteArray) y125 (y125.length : Int) 0)) else (none))) else (none)) = some (r1, r2) := by first | (rw [hy119]; with_reducible exact H) | (have H2_ := (Option.bind_some _ _).symm.trans H; rw [hy119]; with_reducible exact H2_) | (have H2_ := (Option.bind_some _ _).symm.trans H; with_reducible exact H2_) | with_reducible exact H | (rw [hy119]; exact H) | exact H
  have Ny119 := Aside0.mk hy119
  clear hy119
  by_cases c5 : t116.length + y119.length < 17592186044416
  ·rw [if_pos c5] at H
   have LMc5 := Aside0.mk c5
   clear c5
   obtain ⟨y122, hy122⟩ : ∃ y_ : List Int, y_ = (t116 ++ y119) := ⟨_, rfl⟩
   replace H : (if y122.length + l0_10.length < 17592186044416 then ((some (y122 ++ l0_10 : List Int)).bind fun y125 => (wire_Put.l0 k (⟨#[]⟩ : ByteArray) y125 (y125.length : Int) 0)) else (none)) = some (r1, r2) := by first | (rw [hy122]; with_reducible exact H) | (have H2_ := (Option.bind_some _ _).symm.trans H; rw [hy122]; with_reducible exact H2_) | (have H2_ := (Option.bind_some _ _).symm.trans H; with_reducible exact H2_) | with_reducible exact H | (rw [hy122]; exact H) | exact H
   have Ny122 := Aside0.mk hy122
   clear hy122
   by_cases c6 : y122.length + l0_10.length < 17592186044416
   ·rw [if_pos c6] at H
    have LMc6 := Aside0.mk c6
    clear c6
    obtain ⟨y125, hy125⟩ : ∃ y_ : List Int, y_ = (y122 ++ l0_10) := ⟨_, rfl⟩
    replace H : (wire_Put.l0 k (⟨#[]⟩ : ByteArray) y125 (y125.length : Int) 0) = some (r1, r2) := by first | (rw [hy125]; with_reducible exact H) | (have H2_ := (Option.bind_some _ _).symm.trans H; rw [hy125]; with_reducible exact H2_) | (have H2_ := (Option.bind_some _ _).symm.trans H; with_reducible exact H2_) | with_reducible exact H | (rw [hy125]; exact H) | exact H
    have Ny125 := Aside0.mk hy125
    clear hy125
    have H' := Aside0.mk H
    clear H
    go_enter Try.func19, Try.ntmps19
    try go_wp2_with (first | ((with_reducible refine gate_dst (N := 1) rfl ?_); refine box_event ?hg (N := 1) ?hd (cs := #[.int .i64 a0_0, .int .i64 a0_1, .int .i64 a0_2, .int .i64 a0_3, .int .i64 a0_4, .int .i64 a0_5, .int .i64 a0_6, .int .i64 a0_7, .int .i64 a0_8, .int .i64 a0_9, .slice A0_10 l0_10.length c0_10]) (t := 32) ?hr ?_; (case hd => rfl); (case hg => rfl); (case hr => first | (go_simp; done) | (go_simp; rfl)); intro gb114 hg w7 hbox hb; have n0_ := Aside0.mk (below_step (by repeat (first | (with_reducible first | exact HB.out | apply below_alloc | apply pw_below_drewN | apply below_drew1) | exact HB.out)) hb); have n1_ := Aside0.mk (hbox); have n2_ := Aside0.mk ((by rw [hg]; exact (below_size (by repeat (first | (with_reducible first | exact HB.out | apply below_alloc | apply pw_below_drewN | apply below_drew1) | exact HB.out))) : w.heap.size ≤ gb114)); have n3_ := Aside0.mk ((by rw [hg]; exact (below_size (by repeat (first | (with_reducible first | exact HB.out | apply below_alloc | apply pw_below_drewN | apply below_drew1) | exact HB.out))) : w.heap.size ≤ gb114)); clear HB; have HB := n0_; have BK114 := n1_; have GW114 := n2_; have GE114 := n3_; clear n0_ n1_ n2_ n3_; clear hb hbox hg; have hcz8_0 : w7.cell? ⟨gb114, 0, none⟩ = some (.int .i64 a0_0) := (blk_cell BK114.out 0).trans rfl; have hcz8_1 : w7.cell? ⟨gb114, 1, none⟩ = some (.int .i64 a0_1) := (blk_cell BK114.out 1).trans rfl; have hcz8_2 : w7.cell? ⟨gb114, 2, none⟩ = some (.int .i64 a0_2) := (blk_cell BK114.out 2).trans rfl; have hcz8_3 : w7.cell? ⟨gb114, 3, none⟩ = some (.int .i64 a0_3) := (blk_cell BK114.out 3).trans rfl; have hcz8_4 : w7.cell? ⟨gb114, 4, none⟩ = some (.int .i64 a0_4) := (blk_cell BK114.out 4).trans rfl; have hcz8_5 : w7.cell? ⟨gb114, 5, none⟩ = some (.int .i64 a0_5) := (blk_cell BK114.out 5).trans rfl; have hcz8_6 : w7.cell? ⟨gb114, 6, none⟩ = some (.int .i64 a0_6) := (blk_cell BK114.out 6).trans rfl; have hcz8_7 : w7.cell? ⟨gb114, 7, none⟩ = some (.int .i64 a0_7) := (blk_cell BK114.out 7).trans rfl; have hcz8_8 : w7.cell? ⟨gb114, 8, none⟩ = some (.int .i64 a0_8) := (blk_cell BK114.out 8).trans rfl; have hcz8_9 : w7.cell? ⟨gb114, 9, none⟩ = some (.int .i64 a0_9) := (blk_cell BK114.out 9).trans rfl; have hcz8_10 : w7.cell? ⟨gb114, 10, none⟩ = some (.slice A0_10 l0_10.length c0_10) := (blk_cell BK114.out 10).trans rfl; have hfz8_0 := blk_frozen BK114.out 0; have hfz8_1 := blk_frozen BK114.out 1; have hfz8_2 := blk_frozen BK114.out 2; have hfz8_3 := blk_frozen BK114.out 3; have hfz8_4 := blk_frozen BK114.out 4; have hfz8_5 := blk_frozen BK114.out 5; have hfz8_6 := blk_frozen BK114.out 6; have hfz8_7 := blk_frozen BK114.out 7; have hfz8_8 := blk_frozen BK114.out 8; have hfz8_9 := blk_frozen BK114.out 9; have hfz8_10 := blk_frozen BK114.out 10) | ((with_reducible refine gate_callee (f := 21) rfl ?_); refine goesL_ (some 8) rfl rfl Try.func21 (by kernel_rfl) rfl #[.agg #[.int .i64 a0_0, .int .i64 a0_1, .int .i64 a0_2, .int .i64 a0_3, .int .i64 a0_4, .int .i64 a0_5, .int .i64 a0_6, .int .i64 a0_7, .int .i64 a0_8, .int .i64 a0_9, .slice A0_10 l0_10.length c0_10]] rfl (by (try simp only [List.map_toArray, List.map_cons, List.map_nil]); first | done | rfl | (simp only [ByteArray.size_append, Int.natCast_add, List.length_drop, List.length_take]; first | done | rfl) | (simp only [List.length_drop, List.length_take]; rfl)) ?_; (with_reducible refine (wire_Right.calls k a0_0 a0_1 a0_2 a0_3 a0_4 a0_5 a0_6 a0_7 a0_8 a0_9 _ _ l0_10 true _ ?side1 ?side2 A2.out).mono ?_); (case side1 => repeat (first | exact (Kd.C_below HR0_10.out HB.out) | (with_reducible refine Kd.C_alloc ?_ _) | (with_reducible refine Kd.C_drewN ?_ _) | (with_reducible refine Kd.C_drew ?_))); (case side2 => exact HC0_10.out); rintro e w9 ⟨rfl, hb⟩; refine ⟨_, rfl, ?_⟩; have n0_ := Aside0.mk (blk_below (g := gb114) (o := .cells #[.int .i64 a0_0, .int .i64 a0_1, .int .i64 a0_2, .int .i64 a0_3, .int .i64 a0_4, .int .i64 a0_5, .int .i64 a0_6, .int .i64 a0_7, .int .i64 a0_8, .int .i64 a0_9, .slice A0_10 l0_10.length c0_10] 32 (0, 0)) (by (with_reducible repeat (first | refine blk_drewN ?_ _ | refine blk_drew ?_ | refine blk_alloc ?_ _)); exact BK114.out) hb); have n1_ := Aside0.mk (below_step (by repeat (first | (with_reducible first | exact HB.out | apply below_alloc | apply pw_below_drewN | apply below_drew1 | refine below_set ?_ GE114.out) | exact HB.out)) hb); clear BK114; clear HB; have BK114 := n0_; have HB := n1_; clear n0_ n1_; (try clear hb); (try clear hb2); (try clear hk); (try clear hi)))
    have n0_ := Aside0.mk (blk_drew BK114.out)
    have n1_ := Aside0.mk (below_drew1 HB.out)
    clear BK114
    clear HB
    have BK114 := n0_
    have HB := n1_
    clear n0_ n1_
    refine start_ (n := 12) (S := fun w' => w'.cell? ⟨gb114, 0, none⟩ = some (.int .i64 a0_0) ∧ w'.cell? ⟨gb114, 1, none⟩ = some (.int .i64 a0_1) ∧ w'.cell? ⟨gb114, 2, none⟩ = some (.int .i64 a0_2) ∧ w'.cell? ⟨gb114, 3, none⟩ = some (.int .i64 a0_3) ∧ w'.cell? ⟨gb114, 4, none⟩ = some (.int .i64 a0_4) ∧ w'.cell? ⟨gb114, 5, none⟩ = some (.int .i64 a0_5) ∧ w'.cell? ⟨gb114, 6, none⟩ = some (.int .i64 a0_6) ∧ w'.cell? ⟨gb114, 7, none⟩ = some (.int .i64 a0_7) ∧ w'.cell? ⟨gb114, 8, none⟩ = some (.int .i64 a0_8) ∧ w'.cell? ⟨gb114, 9, none⟩ = some (.int .i64 a0_9) ∧ w'.cell? ⟨gb114, 10, none⟩ = some (.slice A0_10 l0_10.length c0_10)) (ds := []) #[false, false, false, false, false, false, false, false, false, false, false, false] (by kernel_rfl) rfl rfl ⟨(blk_cell BK114.out 0).trans rfl, (blk_cell BK114.out 1).trans rfl, (blk_cell BK114.out 2).trans rfl, (blk_cell BK114.out 3).trans rfl, (blk_cell BK114.out 4).trans rfl, (blk_cell BK114.out 5).trans rfl, (blk_cell BK114.out 6).trans rfl, (blk_cell BK114.out 7).trans rfl, (blk_cell BK114.out 8).trans rfl, (blk_cell BK114.out 9).trans rfl, (blk_cell BK114.out 10).trans rfl⟩ (fun hHeld => ?_); refine with_tabW wire_Put.tab4 wire_Put.bits4 (fun HT_ HW_ => ?_)
    generalize w9.drew = w10 at BK114 HB hHeld ⊢
    refine pure_ (i := 2) (N := some 12) (v := ?_) (a' := ?_) #[false, false, true, false, false, false, false, false, false, false, false, false] rfl rfl (any_of HT_.out (by kernel_rfl)) (fun _ _ _ h => h) (Or.inl ⟨by rfl, ?_⟩) ?_ ?_
    rotate_left
    ·intro w'
     go_simp
     with_reducible rfl
    rotate_left
    ·simp only [Act.put, List.setIfInBounds_toArray, List.set_cons_zero, List.set_cons_succ, i64_w, i32_w]
     rfl
    refine pure_ (i := 7) (N := some 17) (v := ?_) (a' := ?_) #[false, false, true, false, false, false, false, true, false, false, false, false] rfl rfl (any_of HT_.out (by kernel_rfl)) (fun _ _ _ h => h) (Or.inl ⟨by rfl, ?_⟩) ?_ ?_
    rotate_left
    ·intro w'
     go_simp
     with_reducible rfl
    rotate_left
    ·simp only [Act.put, List.setIfInBounds_toArray, List.set_cons_zero, List.set_cons_succ, i64_w, i32_w]
     rfl
    refine pure_ (i := 11) (N := some 21) (v := ?_) (a' := ?_) #[false, false, true, false, false, false, false, true, false, false, false, true] rfl rfl (any_of HT_.out (by kernel_rfl)) (fun _ _ _ h => h) (Or.inl ⟨by rfl, ?_⟩) ?_ ?_
    rotate_left
    ·intro w'
     go_simp
     with_reducible rfl
    rotate_left
    ·simp only [Act.put, List.setIfInBounds_toArray, List.set_cons_zero, List.set_cons_succ, i64_w, i32_w]
     rfl
    refine take_ (i := 0) (N := some 10) (v := ?_) (a' := ?_) #[true, false, true, false, false, false, false, true, false, false, false, true] rfl rfl (take_ofW HT_.out HW_.out (by kernel_rfl)) (fun _ _ _ h => h) (Or.inl ⟨by rfl, ?_⟩) hHeld ?_ ?_
    rotate_left
    ·rintro w' ⟨s0, s1, s2, s3, s4, s5, s6, s7, s8, s9, s10⟩
     go_simp
     with_reducible rfl
    rotate_left
    ·simp only [Act.put, List.setIfInBounds_toArray, List.set_cons_zero, List.set_cons_succ, i64_w, i32_w]
     rfl
    refine take_ (i := 3) (N := some 13) (v := ?_) (a' := ?_) #[true, false, true, true, false, false, false, true, false, false, false, true] rfl rfl (take_ofW HT_.out HW_.out (by kernel_rfl)) (fun _ _ _ h => h) (Or.inl ⟨by rfl, ?_⟩) hHeld ?_ ?_
    rotate_left
    ·rintro w' ⟨s0, s1, s2, s3, s4, s5, s6, s7, s8, s9, s10⟩
     go_simp
     with_reducible rfl
    rotate_left
    ·simp only [Act.put, List.setIfInBounds_toArray, List.set_cons_zero, List.set_cons_succ, i64_w, i32_w]
     rfl
    refine pure_ (i := 4) (N := some 14) (v := ?_) (a' := ?_) #[true, false, true, true, true, false, false, true, false, false, false, true] rfl rfl (any_of HT_.out (by kernel_rfl)) (fun _ _ _ h => h) (Or.inl ⟨by rfl, ?_⟩) ?_ ?_
    rotate_left
    ·intro w'
     go_simp
     with_reducible rfl
    rotate_left
    ·simp only [Act.put, List.setIfInBounds_toArray, List.set_cons_zero, List.set_cons_succ, i64_w, i32_w]
     rfl
    refine take_ (i := 8) (N := some 18) (v := ?_) (a' := ?_) #[true, false, true, true, true, false, false, true, true, false, false, true] rfl rfl (take_ofW HT_.out HW_.out (by kernel_rfl)) (fun _ _ _ h => h) (Or.inl ⟨by rfl, ?_⟩) hHeld ?_ ?_
    rotate_left
    ·rintro w' ⟨s0, s1, s2, s3, s4, s5, s6, s7, s8, s9, s10⟩
     go_simp
     with_reducible rfl
    rotate_left
    ·simp only [Act.put, List.setIfInBounds_toArray, List.set_cons_zero, List.set_cons_succ, i64_w, i32_w]
     rfl
    refine join_ (σ := Value × Value) 3 #[true, true, true, true, true, true, false, true, true, false, false, true] (fun s_ => [(11, s_.1), (15, s_.2)]) (fun s_ w' => (w'.cell? ⟨gb114, 0, none⟩ = some (.int .i64 a0_0) ∧ w'.cell? ⟨gb114, 1, none⟩ = some (.int .i64 a0_1) ∧ w'.cell? ⟨gb114, 2, none⟩ = some (.int .i64 a0_2) ∧ w'.cell? ⟨gb114, 3, none⟩ = some (.int .i64 a0_3) ∧ w'.cell? ⟨gb114, 4, none⟩ = some (.int .i64 a0_4) ∧ w'.cell? ⟨gb114, 5, none⟩ = some (.int .i64 a0_5) ∧ w'.cell? ⟨gb114, 6, none⟩ = some (.int .i64 a0_6) ∧ w'.cell? ⟨gb114, 7, none⟩ = some (.int .i64 a0_7) ∧ w'.cell? ⟨gb114, 8, none⟩ = some (.int .i64 a0_8) ∧ w'.cell? ⟨gb114, 9, none⟩ = some (.int .i64 a0_9) ∧ w'.cell? ⟨gb114, 10, none⟩ = some (.slice A0_10 l0_10.length c0_10)) ∧ (Kd.R (Kd.int .i64) 3 w' w.heap.size (fun k_ => some k_ ≠ (s_.2 : Value).ownBlock) s_.1 t116) ∧ (Kd.R (Kd.int .i64) 3 w' w.heap.size (fun k_ => some k_ ≠ (s_.1 : Value).ownBlock) s_.2 y119) ∧ (w'.heap[gb114]? = some (.cells #[.int .i64 a0_0, .int .i64 a0_1, .int .i64 a0_2, .int .i64 a0_3, .int .i64 a0_4, .int .i64 a0_5, .int .i64 a0_6, .int .i64 a0_7, .int .i64 a0_8, .int .i64 a0_9, .slice A0_10 l0_10.length c0_10] 32 (0, 0))) ∧ (Below w.heap.size w w')) ?_ ?_
    rotate_left
    ·intro hCont
     refine two_ (i := 1) (j := 5) (Ni := some 11) (Nj := some 15) #[true, true, true, true, true, false, false, true, true, false, false, true] #[true, false, true, true, true, true, false, true, true, false, false, true] rfl rfl rfl rfl (two_of HT_.out (by kernel_rfl)) (by decide) (by decide) (fun K hK => ?_) (fun K hK => ?_)
     ·skip
      refine goes_ Try.func38 (by kernel_rfl) rfl #[.agg #[.int .i64 a0_0, .int .i64 a0_1, .int .i64 a0_2, .int .i64 a0_3, .int .i64 a0_4, .int .i64 a0_5, .int .i64 a0_6, .int .i64 a0_7, .int .i64 a0_8, .int .i64 a0_9, .slice A0_10 l0_10.length c0_10]] (by rfl) rfl rfl (by (try simp only [List.map_toArray, List.map_cons, List.map_nil]); first | done | rfl | (simp only [ByteArray.size_append, Int.natCast_add, List.length_drop, List.length_take]; first | done | rfl) | (simp only [List.length_drop, List.length_take]; rfl)) ?_
      with_reducible refine (wire_numbers.calls a0_0 a0_1 a0_2 a0_3 a0_4 a0_5 a0_6 a0_7 a0_8 a0_9 _ _ l0_10 t116 _ ?side1 ?side2 A4.out).mono ?_
      (case side1 => repeat (first | exact (Kd.C_below HR0_10.out HB.out) | (with_reducible refine Kd.C_alloc ?_ _) | (with_reducible refine Kd.C_drewN ?_ _) | (with_reducible refine Kd.C_drew ?_)))
      (case side2 => exact HC0_10.out)
      rintro e w11 ⟨v117, rfl, ho0, hb⟩
      refine ⟨_, rfl, ?_⟩
      have n0_ := Aside0.mk (Kd.R_lower ho0 (below_size (by repeat (first | (with_reducible first | exact HB.out | apply below_alloc | apply pw_below_drewN | apply below_drew1 | refine below_set ?_ GE114.out) | exact HB.out))))
      have n1_ := Aside0.mk (blk_below (g := gb114) (o := .cells #[.int .i64 a0_0, .int .i64 a0_1, .int .i64 a0_2, .int .i64 a0_3, .int .i64 a0_4, .int .i64 a0_5, .int .i64 a0_6, .int .i64 a0_7, .int .i64 a0_8, .int .i64 a0_9, .slice A0_10 l0_10.length c0_10] 32 (0, 0)) (by (with_reducible repeat (first | refine blk_drewN ?_ _ | refine blk_drew ?_ | refine blk_alloc ?_ _)); exact BK114.out) hb)
      have n2_ := Aside0.mk (below_step (by repeat (first | (with_reducible first | exact HB.out | apply below_alloc | apply pw_below_drewN | apply below_drew1 | refine below_set ?_ GE114.out) | exact HB.out)) hb)
      clear BK114
      clear HB
      have HO118 := n0_
      have BK114 := n1_
      have HB := n2_
      clear n0_ n1_ n2_
      (try clear hb)
      (try clear hb2)
      (try clear hk)
      (try clear hi)
      (try clear ho0)
      refine hK.out _ _ ⟨(blk_cell BK114.out 0).trans rfl, (blk_cell BK114.out 1).trans rfl, (blk_cell BK114.out 2).trans rfl, (blk_cell BK114.out 3).trans rfl, (blk_cell BK114.out 4).trans rfl, (blk_cell BK114.out 5).trans rfl, (blk_cell BK114.out 6).trans rfl, (blk_cell BK114.out 7).trans rfl, (blk_cell BK114.out 8).trans rfl, (blk_cell BK114.out 9).trans rfl, (blk_cell BK114.out 10).trans rfl⟩ (fun hHeld => ?_)
      clear hK K
      refine norm_ (a' := ?_) ?_ ?_
      rotate_left
      ·show Act.put _ (some 11) _ = _
       simp only [Act.put, List.setIfInBounds_toArray, List.set_cons_zero, List.set_cons_succ, i64_w, i32_w]
       rfl
      refine one_ (i := 5) (N := some 15) #[true, true, true, true, true, true, false, true, true, false, false, true] rfl rfl (one_of HT_.out (by kernel_rfl)) (by decide) (fun K hK => ?_)
      refine Kd.R_lit_step (Kd.int .i64) _ 3 ?hg (N := 15) ?hd (xs := ([(l0_10.length : Int)] : List Int)) (inner := [.int .i64 (l0_10.length : Int)]) (ok := fun _ => True) (okp := fun _ => True) ?hr ?hp (fun _ hk => hk) trivial (Below.refl _ _) (Nat.le_refl _) (by simp) ?_; (case hd => rfl); (case hg => rfl); (case hr => first | (go_simp; done) | (go_simp; rfl)); (case hp => exact (Reps.one (show Kd.M (Kd.int .i64) _ _ _ (l0_10.length : Int) [.int .i64 (l0_10.length : Int)] from rfl) (Reps.none _ _)))
      intro v120 w12 ho13 hb hg_ hnew_
      clear hg_ hnew_
      (first | rw [← Ny119.out] at ho13 | (simp only [Int.reduceToNat] at ho13; rw [← Ny119.out] at ho13))
      have n0_ := Aside0.mk (Kd.R_elder' (by (with_reducible repeat (first | apply Kd.R_alloc | apply Kd.R_drewN | apply Kd.R_drew)); exact HO118.out) (Kd.R_base ho13) hb)
      have n1_ := Aside0.mk (Kd.R_lower (Kd.R_new' ho13 (Kd.R_lt (by (with_reducible repeat (first | apply Kd.R_alloc | apply Kd.R_drewN | apply Kd.R_drew)); exact HO118.out))) (below_size (by repeat (first | (with_reducible first | exact HB.out | apply below_alloc | apply pw_below_drewN | apply below_drew1 | refine below_set ?_ GE114.out) | exact HB.out))))
      have n2_ := Aside0.mk (blk_below (g := gb114) (o := .cells #[.int .i64 a0_0, .int .i64 a0_1, .int .i64 a0_2, .int .i64 a0_3, .int .i64 a0_4, .int .i64 a0_5, .int .i64 a0_6, .int .i64 a0_7, .int .i64 a0_8, .int .i64 a0_9, .slice A0_10 l0_10.length c0_10] 32 (0, 0)) (by (with_reducible repeat (first | refine blk_drewN ?_ _ | refine blk_drew ?_ | refine blk_alloc ?_ _)); exact BK114.out) hb)
      have n3_ := Aside0.mk (below_step (by repeat (first | (with_reducible first | exact HB.out | apply below_alloc | apply pw_below_drewN | apply below_drew1 | refine below_set ?_ GE114.out) | exact HB.out)) hb)
      clear HO118
      clear BK114
      clear HB
      have HO118 := n0_
      have HO121 := n1_
      have BK114 := n2_
      have HB := n3_
      clear n0_ n1_ n2_ n3_
      clear hb ho13
      refine hK.out _ _ ⟨(blk_cell BK114.out 0).trans rfl, (blk_cell BK114.out 1).trans rfl, (blk_cell BK114.out 2).trans rfl, (blk_cell BK114.out 3).trans rfl, (blk_cell BK114.out 4).trans rfl, (blk_cell BK114.out 5).trans rfl, (blk_cell BK114.out 6).trans rfl, (blk_cell BK114.out 7).trans rfl, (blk_cell BK114.out 8).trans rfl, (blk_cell BK114.out 9).trans rfl, (blk_cell BK114.out 10).trans rfl⟩ (fun hHeld => ?_)
      clear hK K
      refine norm_ (a' := ?_) ?_ ?_
      rotate_left
      ·show Act.put _ (some 15) _ = _
       simp only [Act.put, List.setIfInBounds_toArray, List.set_cons_zero, List.set_cons_succ, i64_w, i32_w]
       rfl
      exact norm_ (by simp only [putAll, Act.put, List.setIfInBounds_toArray, List.set_cons_zero, List.set_cons_succ]) (hCont (v117, v120) _ ⟨hHeld, (by (with_reducible repeat (first | apply Kd.R_alloc | apply Kd.R_drewN | apply Kd.R_drew)); exact Kd.R_mono HO118.out (fun _ hk => hk.2)), (by (with_reducible repeat (first | apply Kd.R_alloc | apply Kd.R_drewN | apply Kd.R_drew)); exact Kd.R_mono HO121.out (fun _ hk => hk.2)), (by (with_reducible repeat (first | refine blk_drewN ?_ _ | refine blk_drew ?_ | refine blk_alloc ?_ _)); exact BK114.out), (by repeat (first | (with_reducible first | exact HB.out | apply below_alloc | apply pw_below_drewN | apply below_drew1 | refine below_set ?_ GE114.out) | exact HB.out))⟩)
     ·skip
      refine Kd.R_lit_step (Kd.int .i64) _ 3 ?hg (N := 15) ?hd (xs := ([(l0_10.length : Int)] : List Int)) (inner := [.int .i64 (l0_10.length : Int)]) (ok := fun _ => True) (okp := fun _ => True) ?hr ?hp (fun _ hk => hk) trivial (Below.refl _ _) (Nat.le_refl _) (by simp) ?_; (case hd => rfl); (case hg => rfl); (case hr => first | (go_simp; done) | (go_simp; rfl)); (case hp => exact (Reps.one (show Kd.M (Kd.int .i64) _ _ _ (l0_10.length : Int) [.int .i64 (l0_10.length : Int)] from rfl) (Reps.none _ _)))
      intro v120 w11 ho12 hb hg_ hnew_
      clear hg_ hnew_
      (first | rw [← Ny119.out] at ho12 | (simp only [Int.reduceToNat] at ho12; rw [← Ny119.out] at ho12))
      have n0_ := Aside0.mk (Kd.R_lower ho12 (below_size (by repeat (first | (with_reducible first | exact HB.out | apply below_alloc | apply pw_below_drewN | apply below_drew1 | refine below_set ?_ GE114.out) | exact HB.out))))
      have n1_ := Aside0.mk (blk_below (g := gb114) (o := .cells #[.int .i64 a0_0, .int .i64 a0_1, .int .i64 a0_2, .int .i64 a0_3, .int .i64 a0_4, .int .i64 a0_5, .int .i64 a0_6, .int .i64 a0_7, .int .i64 a0_8, .int .i64 a0_9, .slice A0_10 l0_10.length c0_10] 32 (0, 0)) (by (with_reducible repeat (first | refine blk_drewN ?_ _ | refine blk_drew ?_ | refine blk_alloc ?_ _)); exact BK114.out) hb)
      have n2_ := Aside0.mk (below_step (by repeat (first | (with_reducible first | exact HB.out | apply below_alloc | apply pw_below_drewN | apply below_drew1 | refine below_set ?_ GE114.out) | exact HB.out)) hb)
      clear BK114
      clear HB
      have HO121 := n0_
      have BK114 := n1_
      have HB := n2_
      clear n0_ n1_ n2_
      clear hb ho12
      refine hK.out _ _ ⟨(blk_cell BK114.out 0).trans rfl, (blk_cell BK114.out 1).trans rfl, (blk_cell BK114.out 2).trans rfl, (blk_cell BK114.out 3).trans rfl, (blk_cell BK114.out 4).trans rfl, (blk_cell BK114.out 5).trans rfl, (blk_cell BK114.out 6).trans rfl, (blk_cell BK114.out 7).trans rfl, (blk_cell BK114.out 8).trans rfl, (blk_cell BK114.out 9).trans rfl, (blk_cell BK114.out 10).trans rfl⟩ (fun hHeld => ?_)
      clear hK K
      refine norm_ (a' := ?_) ?_ ?_
      rotate_left
      ·show Act.put _ (some 15) _ = _
       simp only [Act.put, List.setIfInBounds_toArray, List.set_cons_zero, List.set_cons_succ, i64_w, i32_w]
       rfl
      refine one_ (i := 1) (N := some 11) #[true, true, true, true, true, true, false, true, true, false, false, true] rfl rfl (one_of HT_.out (by kernel_rfl)) (by decide) (fun K hK => ?_)
      refine goes_ Try.func38 (by kernel_rfl) rfl #[.agg #[.int .i64 a0_0, .int .i64 a0_1, .int .i64 a0_2, .int .i64 a0_3, .int .i64 a0_4, .int .i64 a0_5, .int .i64 a0_6, .int .i64 a0_7, .int .i64 a0_8, .int .i64 a0_9, .slice A0_10 l0_10.length c0_10]] (by rfl) rfl rfl (by (try simp only [List.map_toArray, List.map_cons, List.map_nil]); first | done | rfl | (simp only [ByteArray.size_append, Int.natCast_add, List.length_drop, List.length_take]; first | done | rfl) | (simp only [List.length_drop, List.length_take]; rfl)) ?_
      with_reducible refine (wire_numbers.calls a0_0 a0_1 a0_2 a0_3 a0_4 a0_5 a0_6 a0_7 a0_8 a0_9 _ _ l0_10 t116 _ ?side1 ?side2 A4.out).mono ?_
      (case side1 => repeat (first | exact (Kd.C_below HR0_10.out HB.out) | (with_reducible refine Kd.C_alloc ?_ _) | (with_reducible refine Kd.C_drewN ?_ _) | (with_reducible refine Kd.C_drew ?_)))
      (case side2 => exact HC0_10.out)
      rintro e w13 ⟨v117, rfl, ho0, hb⟩
      refine ⟨_, rfl, ?_⟩
      have n0_ := Aside0.mk (Kd.R_elder' (by (with_reducible repeat (first | apply Kd.R_alloc | apply Kd.R_drewN | apply Kd.R_drew)); exact HO121.out) (Kd.R_base ho0) hb)
      have n1_ := Aside0.mk (Kd.R_lower (Kd.R_new' ho0 (Kd.R_lt (by (with_reducible repeat (first | apply Kd.R_alloc | apply Kd.R_drewN | apply Kd.R_drew)); exact HO121.out))) (below_size (by repeat (first | (with_reducible first | exact HB.out | apply below_alloc | apply pw_below_drewN | apply below_drew1 | refine below_set ?_ GE114.out) | exact HB.out))))
      have n2_ := Aside0.mk (blk_below (g := gb114) (o := .cells #[.int .i64 a0_0, .int .i64 a0_1, .int .i64 a0_2, .int .i64 a0_3, .int .i64 a0_4, .int .i64 a0_5, .int .i64 a0_6, .int .i64 a0_7, .int .i64 a0_8, .int .i64 a0_9, .slice A0_10 l0_10.length c0_10] 32 (0, 0)) (by (with_reducible repeat (first | refine blk_drewN ?_ _ | refine blk_drew ?_ | refine blk_alloc ?_ _)); exact BK114.out) hb)
      have n3_ := Aside0.mk (below_step (by repeat (first | (with_reducible first | exact HB.out | apply below_alloc | apply pw_below_drewN | apply below_drew1 | refine below_set ?_ GE114.out) | exact HB.out)) hb)
      clear HO121
      clear BK114
      clear HB
      have HO121 := n0_
      have HO118 := n1_
      have BK114 := n2_
      have HB := n3_
      clear n0_ n1_ n2_ n3_
      (try clear hb)
      (try clear hb2)
      (try clear hk)
      (try clear hi)
      (try clear ho0)
      refine hK.out _ _ ⟨(blk_cell BK114.out 0).trans rfl, (blk_cell BK114.out 1).trans rfl, (blk_cell BK114.out 2).trans rfl, (blk_cell BK114.out 3).trans rfl, (blk_cell BK114.out 4).trans rfl, (blk_cell BK114.out 5).trans rfl, (blk_cell BK114.out 6).trans rfl, (blk_cell BK114.out 7).trans rfl, (blk_cell BK114.out 8).trans rfl, (blk_cell BK114.out 9).trans rfl, (blk_cell BK114.out 10).trans rfl⟩ (fun hHeld => ?_)
      clear hK K
      refine norm_ (a' := ?_) ?_ ?_
      rotate_left
      ·show Act.put _ (some 11) _ = _
       simp only [Act.put, List.setIfInBounds_toArray, List.set_cons_zero, List.set_cons_succ, i64_w, i32_w]
       rfl
      exact norm_ (by simp only [putAll, Act.put, List.setIfInBounds_toArray, List.set_cons_zero, List.set_cons_succ]) (hCont (v117, v120) _ ⟨hHeld, (by (with_reducible repeat (first | apply Kd.R_alloc | apply Kd.R_drewN | apply Kd.R_drew)); exact Kd.R_mono HO118.out (fun _ hk => hk.2)), (by (with_reducible repeat (first | apply Kd.R_alloc | apply Kd.R_drewN | apply Kd.R_drew)); exact Kd.R_mono HO121.out (fun _ hk => hk.2)), (by (with_reducible repeat (first | refine blk_drewN ?_ _ | refine blk_drew ?_ | refine blk_alloc ?_ _)); exact BK114.out), (by repeat (first | (with_reducible first | exact HB.out | apply below_alloc | apply pw_below_drewN | apply below_drew1 | refine below_set ?_ GE114.out) | exact HB.out))⟩)
    rintro ⟨v117, v120⟩ w14 ⟨hS_, h0_, h1_, h2_, h3_⟩
    have n0_ : Aside0 (Kd.R (Kd.int .i64) 3 w14 w.heap.size (fun k_ => some k_ ≠ (v120 : Value).ownBlock) v117 t116) := ⟨h0_⟩
    have n1_ : Aside0 (Kd.R (Kd.int .i64) 3 w14 w.heap.size (fun k_ => some k_ ≠ (v117 : Value).ownBlock) v120 y119) := ⟨h1_⟩
    have n2_ : Aside0 (w14.heap[gb114]? = some (.cells #[.int .i64 a0_0, .int .i64 a0_1, .int .i64 a0_2, .int .i64 a0_3, .int .i64 a0_4, .int .i64 a0_5, .int .i64 a0_6, .int .i64 a0_7, .int .i64 a0_8, .int .i64 a0_9, .slice A0_10 l0_10.length c0_10] 32 (0, 0))) := ⟨h2_⟩
    have n3_ : Aside0 (Below w.heap.size w w14) := ⟨h3_⟩
    clear BK114
    clear HB
    clear h0_ h1_ h2_ h3_
    have HO118 := n0_
    have HO121 := n1_
    have BK114 := n2_
    have HB := n3_
    clear n0_ n1_ n2_ n3_
    have hHeld : w14.cell? ⟨gb114, 0, none⟩ = some (.int .i64 a0_0) ∧ w14.cell? ⟨gb114, 1, none⟩ = some (.int .i64 a0_1) ∧ w14.cell? ⟨gb114, 2, none⟩ = some (.int .i64 a0_2) ∧ w14.cell? ⟨gb114, 3, none⟩ = some (.int .i64 a0_3) ∧ w14.cell? ⟨gb114, 4, none⟩ = some (.int .i64 a0_4) ∧ w14.cell? ⟨gb114, 5, none⟩ = some (.int .i64 a0_5) ∧ w14.cell? ⟨gb114, 6, none⟩ = some (.int .i64 a0_6) ∧ w14.cell? ⟨gb114, 7, none⟩ = some (.int .i64 a0_7) ∧ w14.cell? ⟨gb114, 8, none⟩ = some (.int .i64 a0_8) ∧ w14.cell? ⟨gb114, 9, none⟩ = some (.int .i64 a0_9) ∧ w14.cell? ⟨gb114, 10, none⟩ = some (.slice A0_10 l0_10.length c0_10) := hS_
    obtain ⟨Ao16, co16, eo16⟩ := Kd.R_slice HO121.out
    (first | subst eo16 | (injection eo16 with f1_ f2_ f3_; have f4_ := f1_.symm; have f5_ := f3_.symm; clear f1_ f2_ f3_; subst f4_; subst f5_))
    refine norm_ (a' := ?_) ?_ ?_
    rotate_left
    ·simp only [putAll, Act.put, List.setIfInBounds_toArray, List.set_cons_zero, List.set_cons_succ]
     rfl
    refine one_ (i := 6) (N := some 16) #[true, true, true, true, true, true, true, true, true, false, false, true] rfl rfl (one_of HT_.out (by kernel_rfl)) (by decide) (fun K hK => ?_)
    refine Kd.R_append_rows_step (Kd.int .i64) (w0 := w) w.heap.size (by rfl) (.tmp 11) (.tmp 15) 30 3 (.int .i64 0) 8 rfl Try.underlying30 info3 rfl (by decide) (by omega) v117 t116 y119 _ _ _ (fun k_ => some k_ ≠ (.slice Ao16 y119.length co16 : Value).ownBlock) (fun _ => False) rfl rfl ?aO ?aR (fun _ _ h => h) (fun _ h => h.elim) ?aF ?aB ?aS ?aL ?_
    (case aR => repeat (first | exact (Kd.R_reads' HO121.out).2.2 | (with_reducible refine Kd.C_alloc ?_ _) | (with_reducible refine Kd.C_drewN ?_ _) | (with_reducible refine Kd.C_drew ?_)))
    (case aB => exact (by repeat (first | (with_reducible first | exact HB.out | apply below_alloc | apply pw_below_drewN | apply below_drew1 | refine below_set ?_ GE114.out) | exact HB.out)))
    (case aF => exact (fun k_ hk => Kd.fresh' (Kd.R_lt (by (with_reducible repeat (first | apply Kd.R_alloc | apply Kd.R_drewN | apply Kd.R_drew)); exact HO121.out)) k_ hk))
    (case aO => exact (by (with_reducible repeat (first | apply Kd.R_alloc | apply Kd.R_drewN | apply Kd.R_drew)); exact HO118.out))
    (case aS => exact (below_size (by repeat (first | (with_reducible first | exact HB.out | apply below_alloc | apply pw_below_drewN | apply below_drew1 | refine below_set ?_ GE114.out) | exact HB.out))))
    (case aL => have := LMc5.out; omega)
    intro v123 w15 ho hb hg hat
    rw [← Ny122.out] at ho
    have n0_ := Aside0.mk (blk_grown (g := gb114) (o := .cells #[.int .i64 a0_0, .int .i64 a0_1, .int .i64 a0_2, .int .i64 a0_3, .int .i64 a0_4, .int .i64 a0_5, .int .i64 a0_6, .int .i64 a0_7, .int .i64 a0_8, .int .i64 a0_9, .slice A0_10 l0_10.length c0_10] 32 (0, 0)) (by (with_reducible repeat (first | refine blk_drewN ?_ _ | refine blk_drew ?_ | refine blk_alloc ?_ _)); exact BK114.out) hg (Kd.R_ne HO118.out BK114.out (by decide)))
    have n1_ := Aside0.mk (Kd.R_after (ok := (fun _ => True)) (by (with_reducible repeat (first | apply Kd.R_alloc | apply Kd.R_drewN | apply Kd.R_drew)); exact Kd.R_mono HO121.out (fun _ hk => ⟨trivial, hk⟩)) hg hat)
    have n2_ := Aside0.mk (hb)
    have n3_ := Aside0.mk (ho)
    clear BK114
    clear HO121
    clear HB
    clear HO118
    have BK114 := n0_
    have HO121 := n1_
    have HB := n2_
    have HO124 := n3_
    clear n0_ n1_ n2_ n3_
    clear ho hb hg hat
    refine hK.out _ _ ⟨(blk_cell BK114.out 0).trans rfl, (blk_cell BK114.out 1).trans rfl, (blk_cell BK114.out 2).trans rfl, (blk_cell BK114.out 3).trans rfl, (blk_cell BK114.out 4).trans rfl, (blk_cell BK114.out 5).trans rfl, (blk_cell BK114.out 6).trans rfl, (blk_cell BK114.out 7).trans rfl, (blk_cell BK114.out 8).trans rfl, (blk_cell BK114.out 9).trans rfl, (blk_cell BK114.out 10).trans rfl⟩ (fun hHeld => ?_)
    clear hK K
    refine norm_ (a' := ?_) ?_ ?_
    rotate_left
    ·show Act.put _ (some 16) _ = _
     simp only [Act.put, List.setIfInBounds_toArray, List.set_cons_zero, List.set_cons_succ, i64_w, i32_w]
     rfl
    refine one_ (i := 9) (N := some 19) #[true, true, true, true, true, true, true, true, true, true, false, true] rfl rfl (one_of HT_.out (by kernel_rfl)) (by decide) (fun K hK => ?_)
    refine Kd.R_append_rows_step (Kd.int .i64) (w0 := w) w.heap.size (by rfl) (.tmp 16) (.tmp 18) 30 3 (.int .i64 0) 8 rfl Try.underlying30 info3 rfl (by decide) (by omega) v123 y122 l0_10 _ _ _ (fun k_ => some k_ ≠ (.slice Ao16 y119.length co16 : Value).ownBlock) (fun _ => False) rfl rfl ?aO ?aR (fun _ _ h => h) (fun _ h => h.elim) ?aF ?aB ?aS ?aL ?_
    (case aR => repeat (first | exact (Kd.C_below HR0_10.out HB.out) | (with_reducible refine Kd.C_alloc ?_ _) | (with_reducible refine Kd.C_drewN ?_ _) | (with_reducible refine Kd.C_drew ?_)))
    (case aB => exact (by repeat (first | (with_reducible first | exact HB.out | apply below_alloc | apply pw_below_drewN | apply below_drew1 | refine below_set ?_ GE114.out) | exact HB.out)))
    (case aF => exact (fun k_ hk => Kd.fresh' (Kd.R_lt (by (with_reducible repeat (first | apply Kd.R_alloc | apply Kd.R_drewN | apply Kd.R_drew)); exact HO121.out)) k_ hk))
    (case aO => exact (by (with_reducible repeat (first | apply Kd.R_alloc | apply Kd.R_drewN | apply Kd.R_drew)); exact HO124.out))
    (case aS => exact (below_size (by repeat (first | (with_reducible first | exact HB.out | apply below_alloc | apply pw_below_drewN | apply below_drew1 | refine below_set ?_ GE114.out) | exact HB.out))))
    (case aL => have := LMc6.out; omega)
    intro v126 w17 ho hb hg hat
    rw [← Ny125.out] at ho
    have n0_ := Aside0.mk (blk_grown (g := gb114) (o := .cells #[.int .i64 a0_0, .int .i64 a0_1, .int .i64 a0_2, .int .i64 a0_3, .int .i64 a0_4, .int .i64 a0_5, .int .i64 a0_6, .int .i64 a0_7, .int .i64 a0_8, .int .i64 a0_9, .slice A0_10 l0_10.length c0_10] 32 (0, 0)) (by (with_reducible repeat (first | refine blk_drewN ?_ _ | refine blk_drew ?_ | refine blk_alloc ?_ _)); exact BK114.out) hg (Kd.R_ne HO124.out BK114.out (by decide)))
    have n1_ := Aside0.mk (Kd.R_after (ok := (fun _ => True)) (by (with_reducible repeat (first | apply Kd.R_alloc | apply Kd.R_drewN | apply Kd.R_drew)); exact HO121.out) hg hat)
    have n2_ := Aside0.mk (hb)
    have n3_ := Aside0.mk (ho)
    clear BK114
    clear HO121
    clear HB
    clear HO124
    have BK114 := n0_
    have HO121 := n1_
    have HB := n2_
    have HO127 := n3_
    clear n0_ n1_ n2_ n3_
    clear ho hb hg hat
    obtain ⟨Ao18, co18, eo18⟩ := Kd.R_slice HO127.out
    (first | subst eo18 | (injection eo18 with f1_ f2_ f3_; have f4_ := f1_.symm; have f5_ := f3_.symm; clear f1_ f2_ f3_; subst f4_; subst f5_))
    refine hK.out _ _ ⟨(blk_cell BK114.out 0).trans rfl, (blk_cell BK114.out 1).trans rfl, (blk_cell BK114.out 2).trans rfl, (blk_cell BK114.out 3).trans rfl, (blk_cell BK114.out 4).trans rfl, (blk_cell BK114.out 5).trans rfl, (blk_cell BK114.out 6).trans rfl, (blk_cell BK114.out 7).trans rfl, (blk_cell BK114.out 8).trans rfl, (blk_cell BK114.out 9).trans rfl, (blk_cell BK114.out 10).trans rfl⟩ (fun hHeld => ?_)
    clear hK K
    refine norm_ (a' := ?_) ?_ ?_
    rotate_left
    ·show Act.put _ (some 19) _ = _
     simp only [Act.put, List.setIfInBounds_toArray, List.set_cons_zero, List.set_cons_succ, i64_w, i32_w]
     rfl
    refine pure_ (i := 10) (N := some 20) (v := ?_) (a' := ?_) #[true, true, true, true, true, true, true, true, true, true, true, true] rfl rfl (any_of HT_.out (by kernel_rfl)) (fun _ _ _ h => h) (Or.inl ⟨by rfl, ?_⟩) ?_ ?_
    rotate_left
    ·intro w'
     go_simp
     with_reducible rfl
    rotate_left
    ·simp only [Act.put, List.setIfInBounds_toArray, List.set_cons_zero, List.set_cons_succ, i64_w, i32_w]
     rfl
    refine done_ (done_of HT_.out (by kernel_rfl)) ?_
    try go_wp2
    go_loopg [4, 21] k (fun kq v4 v21 w' => ∃ (x4_1 : ByteArray) (x21_1 : Int), v4 = .string x4_1 ∧ v21 = .int .i64 x21_1 ∧ Aside0 (wire_Put.l0 kq x4_1 y125 (y125.length : Int) x21_1 = some (r1, r2)) ∧ Aside0 (kq ≤ k) ∧ Aside0 (Kd.R (Kd.int .i64) 3 w' w.heap.size (fun _ => True) (.slice Ao18 y125.length co18) y125) ∧ Aside0 (w'.heap[gb114]? = some (.cells #[.int .i64 a0_0, .int .i64 a0_1, .int .i64 a0_2, .int .i64 a0_3, .int .i64 a0_4, .int .i64 a0_5, .int .i64 a0_6, .int .i64 a0_7, .int .i64 a0_8, .int .i64 a0_9, (.slice A0_10 l0_10.length c0_10)] 32 (0, 0))) ∧ Aside0 (Below w.heap.size w w'))
    case atStart => exact ⟨((⟨#[]⟩ : ByteArray)), (0), (by first | rfl | (simp; done) | (simp [*]; done)), (by first | rfl | (simp; done) | (simp [*]; done)), H', ⟨Nat.le_refl _⟩, ⟨by (with_reducible repeat (first | apply Kd.R_alloc | apply Kd.R_drewN | apply Kd.R_drew)); exact Kd.R_mono HO127.out (fun _ hk => trivial)⟩, ⟨by (with_reducible repeat (first | refine blk_drewN ?_ _ | refine blk_drew ?_ | refine blk_alloc ?_ _)); exact BK114.out⟩, ⟨by repeat (first | (with_reducible first | exact HB.out | apply below_alloc | apply pw_below_drewN | apply below_drew1 | refine below_set ?_ GE114.out) | exact HB.out)⟩⟩
    case round =>
     clear H'
     try clear c1
     try clear c2
     try clear p2
     try clear c3
     try clear c5
     try clear c6
     try clear hcz8_0
     try clear hcz8_1
     try clear hcz8_10
     try clear hcz8_2
     try clear hcz8_3
     try clear hcz8_4
     try clear hcz8_5
     try clear hcz8_6
     try clear hcz8_7
     try clear hcz8_8
     try clear hcz8_9
     try clear hfz8_0
     try clear hfz8_1
     try clear hfz8_10
     try clear hfz8_2
     try clear hfz8_3
     try clear hfz8_4
     try clear hfz8_5
     try clear hfz8_6
     try clear hfz8_7
     try clear hfz8_8
     try clear hfz8_9
     obtain ⟨x4_1, x21_1, rfl, rfl, HA, HK1, HO_19, BK114, HB⟩ := hrel
     cases gk with
     | zero => exact absurd HA.out (by simp [wire_Put.l0])
     | succ k1 =>
      have H := HA.out
      clear HA
      simp only [wire_Put.l0] at H
      by_cases c19 : x21_1 < (y125.length : Int)
      ·rw [if_pos c19] at H
       have c19b0 : decide (x21_1 < (y125.length : Int)) = true := decide_eq_true c19
       clear c19
       by_cases c20 : 0 ≤ x21_1
       ·rw [if_pos c20] at H
        have c20b0 : decide (0 ≤ x21_1) = true := decide_eq_true c20
        clear c20
        by_cases c21 : x21_1 < (y125.length : Int)
        ·rw [if_pos c21] at H
         have c21b0 : decide (x21_1 < (y125.length : Int)) = true := decide_eq_true c21
         clear c21
         replace H := Option.bind_eq_some_iff.mp H
         obtain ⟨t129, A220, H⟩ := H
         replace H : (if x4_1.size + t129.size ≤ 9223372036854775807 then (wire_Put.l0 k1 (x4_1 ++ t129) y125 (y125.length : Int) (wrap64 (x21_1 + 1))) else (none)) = some (r1, r2) := H
         have A22 := Aside0.mk A220
         clear A220
         by_cases c23 : x4_1.size + t129.size ≤ 9223372036854775807
         ·rw [if_pos c23] at H
          have c23b0 := eq_true c23
          have c23b1 : decide (x4_1.size + t129.size ≤ 9223372036854775807) = true := decide_eq_true c23
          try have c23b2 : (9223372036854775807 < x4_1.size + t129.size) = False := eq_false (Nat.not_lt.2 c23)
          have H' := Aside0.mk H
          clear H
          have p128 : 0 ≤ (x21_1 : Int) := of_decide_eq_true (by first | (with_reducible assumption) | assumption)
          have q128 : x21_1 < (y125.length : Int) := of_decide_eq_true (by first | (with_reducible assumption) | assumption)
          obtain ⟨ad128, e128, hx128_0⟩ := Kd.at_int (Kd.R_reads' HO_19.out).2.2 x21_1 p128 q128
          cases e128
          replace p128 := eq_true p128
          replace q128 := eq_true q128
          go_wp2_with (first | ((with_reducible refine gate_callee (f := 39) rfl ?_); refine goesL_ (some 27) rfl rfl Try.func39 (by kernel_rfl) rfl #[.int .i64 (rd y125 x21_1)] rfl (by (try simp only [List.map_toArray, List.map_cons, List.map_nil]); first | done | rfl | (simp only [ByteArray.size_append, Int.natCast_add, List.length_drop, List.length_take]; first | done | rfl) | (simp only [List.length_drop, List.length_take]; rfl)) ?_; (with_reducible refine (wire_four.calls (rd y125 x21_1) t129 _ A22.out).mono ?_); rintro e w24 ⟨rfl, hb⟩; refine ⟨_, rfl, ?_⟩; have n0_ := Aside0.mk (Kd.R_below (by (with_reducible repeat (first | apply Kd.R_alloc | apply Kd.R_drewN | apply Kd.R_drew)); exact HO_19.out) hb); have n1_ := Aside0.mk (blk_below (g := gb114) (o := .cells #[.int .i64 a0_0, .int .i64 a0_1, .int .i64 a0_2, .int .i64 a0_3, .int .i64 a0_4, .int .i64 a0_5, .int .i64 a0_6, .int .i64 a0_7, .int .i64 a0_8, .int .i64 a0_9, .slice A0_10 l0_10.length c0_10] 32 (0, 0)) (by (with_reducible repeat (first | refine blk_drewN ?_ _ | refine blk_drew ?_ | refine blk_alloc ?_ _)); exact BK114.out) hb); have n2_ := Aside0.mk (below_step (by repeat (first | (with_reducible first | exact HB.out | apply below_alloc | apply pw_below_drewN | apply below_drew1 | refine below_set ?_ GE114.out) | exact HB.out)) hb); clear HO_19; clear BK114; clear HB; have HO_19 := n0_; have BK114 := n1_; have HB := n2_; clear n0_ n1_ n2_; (try clear hb); (try clear hb2); (try clear hk); (try clear hi)))
          go_roundg k1
          case measure => have := HK1.out; omega
          case rel => exact ⟨(x4_1 ++ t129), (wrap64 (x21_1 + 1)), (by first | rfl | (simp; done) | (simp [*]; done)), (by first | rfl | (simp; done) | (simp [*]; done)), H', ⟨by have := HK1.out; omega⟩, ⟨by (with_reducible repeat (first | apply Kd.R_alloc | apply Kd.R_drewN | apply Kd.R_drew)); exact HO_19.out⟩, ⟨by (with_reducible repeat (first | refine blk_drewN ?_ _ | refine blk_drew ?_ | refine blk_alloc ?_ _)); exact BK114.out⟩, ⟨by repeat (first | (with_reducible first | exact HB.out | apply below_alloc | apply pw_below_drewN | apply below_drew1 | refine below_set ?_ GE114.out) | exact HB.out)⟩⟩
         ·rw [if_neg c23] at H
          exact absurd H (by simp)
        ·rw [if_neg c21] at H
         exact absurd H (by simp)
       ·rw [if_neg c20] at H
        exact absurd H (by simp)
      ·rw [if_neg c19] at H
       have c19b0 : decide (x21_1 < (y125.length : Int)) = false := decide_eq_false c19
       clear c19
       replace H := Option.bind_eq_some_iff.mp H
       obtain ⟨t130, A250, H⟩ := H
       replace H : ((wire_four.f t130).bind fun t131 => (if x4_1.size + t131.size ≤ 9223372036854775807 then ((wire_four.f ((x4_1 ++ t131).size : Int)).bind fun t132 => (if t132.size + (x4_1 ++ t131).size ≤ 9223372036854775807 then (some (t132 ++ (x4_1 ++ t131), 0)) else (none))) else (none))) = some (r1, r2) := H
       have A25 := Aside0.mk A250
       clear A250
       replace H := Option.bind_eq_some_iff.mp H
       obtain ⟨t131, A260, H⟩ := H
       replace H : (if x4_1.size + t131.size ≤ 9223372036854775807 then ((wire_four.f ((x4_1 ++ t131).size : Int)).bind fun t132 => (if t132.size + (x4_1 ++ t131).size ≤ 9223372036854775807 then (some (t132 ++ (x4_1 ++ t131), 0)) else (none))) else (none)) = some (r1, r2) := H
       have A26 := Aside0.mk A260
       clear A260
       by_cases c27 : x4_1.size + t131.size ≤ 9223372036854775807
       ·rw [if_pos c27] at H
        have c27b0 := eq_true c27
        have c27b1 : decide (x4_1.size + t131.size ≤ 9223372036854775807) = true := decide_eq_true c27
        try have c27b2 : (9223372036854775807 < x4_1.size + t131.size) = False := eq_false (Nat.not_lt.2 c27)
        replace H := Option.bind_eq_some_iff.mp H
        obtain ⟨t132, A280, H⟩ := H
        replace H : (if t132.size + (x4_1 ++ t131).size ≤ 9223372036854775807 then (some (t132 ++ (x4_1 ++ t131), 0)) else (none)) = some (r1, r2) := H
        have A28 := Aside0.mk A280
        clear A280
        by_cases c29 : t132.size + (x4_1 ++ t131).size ≤ 9223372036854775807
        ·rw [if_pos c29] at H
         have c29b0 := eq_true c29
         have c29b1 : decide (t132.size + (x4_1 ++ t131).size ≤ 9223372036854775807) = true := decide_eq_true c29
         try have c29b2 : (9223372036854775807 < t132.size + (x4_1 ++ t131).size) = False := eq_false (Nat.not_lt.2 c29)
         simp only [Option.some.injEq, Prod.mk.injEq] at H
         obtain ⟨rfl, rfl⟩ := H
         go_wp2_with (first | ((with_reducible refine gate_callee (f := 16) rfl ?_); refine goesL_ (some 32) rfl rfl Try.func16 (by kernel_rfl) rfl #[.string x4_1] rfl (by (try simp only [List.map_toArray, List.map_cons, List.map_nil]); first | done | rfl | (simp only [ByteArray.size_append, Int.natCast_add, List.length_drop, List.length_take]; first | done | rfl) | (simp only [List.length_drop, List.length_take]; rfl)) ?_; (with_reducible refine (crc_Sum.calls x4_1 t130 _ A25.out).mono ?_); rintro e w30 ⟨rfl, hb⟩; refine ⟨_, rfl, ?_⟩; have n0_ := Aside0.mk (Kd.R_below (by (with_reducible repeat (first | apply Kd.R_alloc | apply Kd.R_drewN | apply Kd.R_drew)); exact HO_19.out) hb); have n1_ := Aside0.mk (blk_below (g := gb114) (o := .cells #[.int .i64 a0_0, .int .i64 a0_1, .int .i64 a0_2, .int .i64 a0_3, .int .i64 a0_4, .int .i64 a0_5, .int .i64 a0_6, .int .i64 a0_7, .int .i64 a0_8, .int .i64 a0_9, .slice A0_10 l0_10.length c0_10] 32 (0, 0)) (by (with_reducible repeat (first | refine blk_drewN ?_ _ | refine blk_drew ?_ | refine blk_alloc ?_ _)); exact BK114.out) hb); have n2_ := Aside0.mk (below_step (by repeat (first | (with_reducible first | exact HB.out | apply below_alloc | apply pw_below_drewN | apply below_drew1 | refine below_set ?_ GE114.out) | exact HB.out)) hb); clear HO_19; clear BK114; clear HB; have HO_19 := n0_; have BK114 := n1_; have HB := n2_; clear n0_ n1_ n2_; (try clear hb); (try clear hb2); (try clear hk); (try clear hi)) | ((with_reducible refine gate_callee (f := 39) rfl ?_); refine goesL_ (some 33) rfl rfl Try.func39 (by kernel_rfl) rfl #[.int .i64 t130] rfl (by (try simp only [List.map_toArray, List.map_cons, List.map_nil]); first | done | rfl | (simp only [ByteArray.size_append, Int.natCast_add, List.length_drop, List.length_take]; first | done | rfl) | (simp only [List.length_drop, List.length_take]; rfl)) ?_; (with_reducible refine (wire_four.calls t130 t131 _ A26.out).mono ?_); rintro e w31 ⟨rfl, hb⟩; refine ⟨_, rfl, ?_⟩; have n0_ := Aside0.mk (Kd.R_below (by (with_reducible repeat (first | apply Kd.R_alloc | apply Kd.R_drewN | apply Kd.R_drew)); exact HO_19.out) hb); have n1_ := Aside0.mk (blk_below (g := gb114) (o := .cells #[.int .i64 a0_0, .int .i64 a0_1, .int .i64 a0_2, .int .i64 a0_3, .int .i64 a0_4, .int .i64 a0_5, .int .i64 a0_6, .int .i64 a0_7, .int .i64 a0_8, .int .i64 a0_9, .slice A0_10 l0_10.length c0_10] 32 (0, 0)) (by (with_reducible repeat (first | refine blk_drewN ?_ _ | refine blk_drew ?_ | refine blk_alloc ?_ _)); exact BK114.out) hb); have n2_ := Aside0.mk (below_step (by repeat (first | (with_reducible first | exact HB.out | apply below_alloc | apply pw_below_drewN | apply below_drew1 | refine below_set ?_ GE114.out) | exact HB.out)) hb); clear HO_19; clear BK114; clear HB; have HO_19 := n0_; have BK114 := n1_; have HB := n2_; clear n0_ n1_ n2_; (try clear hb); (try clear hb2); (try clear hk); (try clear hi)) | ((with_reducible refine gate_callee (f := 39) rfl ?_); refine goesL_ (some 37) rfl rfl Try.func39 (by kernel_rfl) rfl #[.int .i64 ((x4_1 ++ t131).size : Int)] rfl (by (try simp only [List.map_toArray, List.map_cons, List.map_nil]); first | done | rfl | (simp only [ByteArray.size_append, Int.natCast_add, List.length_drop, List.length_take]; first | done | rfl) | (simp only [List.length_drop, List.length_take]; rfl)) ?_; (with_reducible refine (wire_four.calls ((x4_1 ++ t131).size : Int) t132 _ A28.out).mono ?_); rintro e w32 ⟨rfl, hb⟩; refine ⟨_, rfl, ?_⟩; have n0_ := Aside0.mk (Kd.R_below (by (with_reducible repeat (first | apply Kd.R_alloc | apply Kd.R_drewN | apply Kd.R_drew)); exact HO_19.out) hb); have n1_ := Aside0.mk (blk_below (g := gb114) (o := .cells #[.int .i64 a0_0, .int .i64 a0_1, .int .i64 a0_2, .int .i64 a0_3, .int .i64 a0_4, .int .i64 a0_5, .int .i64 a0_6, .int .i64 a0_7, .int .i64 a0_8, .int .i64 a0_9, .slice A0_10 l0_10.length c0_10] 32 (0, 0)) (by (with_reducible repeat (first | refine blk_drewN ?_ _ | refine blk_drew ?_ | refine blk_alloc ?_ _)); exact BK114.out) hb); have n2_ := Aside0.mk (below_step (by repeat (first | (with_reducible first | exact HB.out | apply below_alloc | apply pw_below_drewN | apply below_drew1 | refine below_set ?_ GE114.out) | exact HB.out)) hb); clear HO_19; clear BK114; clear HB; have HO_19 := n0_; have BK114 := n1_; have HB := n2_; clear n0_ n1_ n2_; (try clear hb); (try clear hb2); (try clear hk); (try clear hi)))
         go_ret2
         exact ⟨by first | rfl | (simp [errW_none, errW_some] <;> rfl) | (simp [*, errW_none, errW_some] <;> rfl), by repeat (first | (with_reducible first | exact HB.out | apply below_alloc | apply pw_below_drewN | apply below_drew1 | refine below_set ?_ GE114.out) | exact HB.out)⟩
        ·rw [if_neg c29] at H
         exact absurd H (by simp)
       ·rw [if_neg c27] at H
        exact absurd H (by simp)
   ·rw [if_neg c6] at H
    exact absurd H (by simp)
  ·rw [if_neg c5] at H
   exact absurd H (by simp)
 ·replace c3 := Bool.eq_false_iff.mpr c3
  subst c3
  have H1 : (some ((⟨#[]⟩ : ByteArray), 1)) = some (r1, r2) := by rw [if_neg (show ¬ (false = true) by decide)] at H; exact H
  clear H
  have H := H1
  clear H1
  simp only [Option.some.injEq, Prod.mk.injEq] at H
  obtain ⟨rfl, rfl⟩ := H
  go_enter Try.func19, Try.ntmps19
  go_wp2_with (first | ((with_reducible refine gate_dst (N := 1) rfl ?_); refine box_event ?hg (N := 1) ?hd (cs := #[.int .i64 a0_0, .int .i64 a0_1, .int .i64 a0_2, .int .i64 a0_3, .int .i64 a0_4, .int .i64 a0_5, .int .i64 a0_6, .int .i64 a0_7, .int .i64 a0_8, .int .i64 a0_9, .slice A0_10 l0_10.length c0_10]) (t := 32) ?hr ?_; (case hd => rfl); (case hg => rfl); (case hr => first | (go_simp; done) | (go_simp; rfl)); intro gb114 hg w33 hbox hb; have n0_ := Aside0.mk (below_step (by repeat (first | (with_reducible first | exact HB.out | apply below_alloc | apply pw_below_drewN | apply below_drew1) | exact HB.out)) hb); have n1_ := Aside0.mk (hbox); have n2_ := Aside0.mk ((by rw [hg]; exact (below_size (by repeat (first | (with_reducible first | exact HB.out | apply below_alloc | apply pw_below_drewN | apply below_drew1) | exact HB.out))) : w.heap.size ≤ gb114)); have n3_ := Aside0.mk ((by rw [hg]; exact (below_size (by repeat (first | (with_reducible first | exact HB.out | apply below_alloc | apply pw_below_drewN | apply below_drew1) | exact HB.out))) : w.heap.size ≤ gb114)); clear HB; have HB := n0_; have BK114 := n1_; have GW114 := n2_; have GE114 := n3_; clear n0_ n1_ n2_ n3_; clear hb hbox hg; have hcz34_0 : w33.cell? ⟨gb114, 0, none⟩ = some (.int .i64 a0_0) := (blk_cell BK114.out 0).trans rfl; have hcz34_1 : w33.cell? ⟨gb114, 1, none⟩ = some (.int .i64 a0_1) := (blk_cell BK114.out 1).trans rfl; have hcz34_2 : w33.cell? ⟨gb114, 2, none⟩ = some (.int .i64 a0_2) := (blk_cell BK114.out 2).trans rfl; have hcz34_3 : w33.cell? ⟨gb114, 3, none⟩ = some (.int .i64 a0_3) := (blk_cell BK114.out 3).trans rfl; have hcz34_4 : w33.cell? ⟨gb114, 4, none⟩ = some (.int .i64 a0_4) := (blk_cell BK114.out 4).trans rfl; have hcz34_5 : w33.cell? ⟨gb114, 5, none⟩ = some (.int .i64 a0_5) := (blk_cell BK114.out 5).trans rfl; have hcz34_6 : w33.cell? ⟨gb114, 6, none⟩ = some (.int .i64 a0_6) := (blk_cell BK114.out 6).trans rfl; have hcz34_7 : w33.cell? ⟨gb114, 7, none⟩ = some (.int .i64 a0_7) := (blk_cell BK114.out 7).trans rfl; have hcz34_8 : w33.cell? ⟨gb114, 8, none⟩ = some (.int .i64 a0_8) := (blk_cell BK114.out 8).trans rfl; have hcz34_9 : w33.cell? ⟨gb114, 9, none⟩ = some (.int .i64 a0_9) := (blk_cell BK114.out 9).trans rfl; have hcz34_10 : w33.cell? ⟨gb114, 10, none⟩ = some (.slice A0_10 l0_10.length c0_10) := (blk_cell BK114.out 10).trans rfl; have hfz34_0 := blk_frozen BK114.out 0; have hfz34_1 := blk_frozen BK114.out 1; have hfz34_2 := blk_frozen BK114.out 2; have hfz34_3 := blk_frozen BK114.out 3; have hfz34_4 := blk_frozen BK114.out 4; have hfz34_5 := blk_frozen BK114.out 5; have hfz34_6 := blk_frozen BK114.out 6; have hfz34_7 := blk_frozen BK114.out 7; have hfz34_8 := blk_frozen BK114.out 8; have hfz34_9 := blk_frozen BK114.out 9; have hfz34_10 := blk_frozen BK114.out 10) | ((with_reducible refine gate_callee (f := 21) rfl ?_); refine goesL_ (some 8) rfl rfl Try.func21 (by kernel_rfl) rfl #[.agg #[.int .i64 a0_0, .int .i64 a0_1, .int .i64 a0_2, .int .i64 a0_3, .int .i64 a0_4, .int .i64 a0_5, .int .i64 a0_6, .int .i64 a0_7, .int .i64 a0_8, .int .i64 a0_9, .slice A0_10 l0_10.length c0_10]] rfl (by (try simp only [List.map_toArray, List.map_cons, List.map_nil]); first | done | rfl | (simp only [ByteArray.size_append, Int.natCast_add, List.length_drop, List.length_take]; first | done | rfl) | (simp only [List.length_drop, List.length_take]; rfl)) ?_; (with_reducible refine (wire_Right.calls k a0_0 a0_1 a0_2 a0_3 a0_4 a0_5 a0_6 a0_7 a0_8 a0_9 _ _ l0_10 false _ ?side1 ?side2 A2.out).mono ?_); (case side1 => repeat (first | exact (Kd.C_below HR0_10.out HB.out) | (with_reducible refine Kd.C_alloc ?_ _) | (with_reducible refine Kd.C_drewN ?_ _) | (with_reducible refine Kd.C_drew ?_))); (case side2 => exact HC0_10.out); rintro e w35 ⟨rfl, hb⟩; refine ⟨_, rfl, ?_⟩; have n0_ := Aside0.mk (blk_below (g := gb114) (o := .cells #[.int .i64 a0_0, .int .i64 a0_1, .int .i64 a0_2, .int .i64 a0_3, .int .i64 a0_4, .int .i64 a0_5, .int .i64 a0_6, .int .i64 a0_7, .int .i64 a0_8, .int .i64 a0_9, .slice A0_10 l0_10.length c0_10] 32 (0, 0)) (by (with_reducible repeat (first | refine blk_drewN ?_ _ | refine blk_drew ?_ | refine blk_alloc ?_ _)); exact BK114.out) hb); have n1_ := Aside0.mk (below_step (by repeat (first | (with_reducible first | exact HB.out | apply below_alloc | apply pw_below_drewN | apply below_drew1 | refine below_set ?_ GE114.out) | exact HB.out)) hb); clear BK114; clear HB; have BK114 := n0_; have HB := n1_; clear n0_ n1_; (try clear hb); (try clear hb2); (try clear hk); (try clear hi)))
  go_ret2
  exact ⟨by first | rfl | (simp [errW_none, errW_some] <;> rfl) | (simp [*, errW_none, errW_some] <;> rfl), by repeat (first | (with_reducible first | exact HB.out | apply below_alloc | apply pw_below_drewN | apply below_drew1 | refine below_set ?_ GE114.out) | exact HB.out)⟩

end
end Go.Proofs.Ytgfpkhihdahjlab.QWire
