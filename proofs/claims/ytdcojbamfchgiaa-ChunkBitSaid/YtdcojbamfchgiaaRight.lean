/- What mat.Right computes: the walks of slices.IndexFunc, slices.ContainsFunc and the closures, at []int and [][]int. -/
import Derived.Test.YtdcojbamfchgiaaProg
import Derived.WalkKit
import Derived.Below
import Derived.Test.YtdcojbamfchgiaaWWords
import Derived.Test.YtdcojbamfchgiaaWMore
namespace Go.Proofs.Ytdcojbamfchgiaa.Right
open Go Go.RowKit Go.Proofs.YtdcojbamfchgiaaW.PrintWords
theorem at_L1 {w : World} {A : Option Addr} {n : Nat} {xs : List (List Int)} (h : Kd.C (Kd.slice 3 (Kd.int .i64)) w A n xs) (i : Int) (h0 : 0 ≤ i) (h1 : i < n) : ∃ ad A0 c0, A = some ad ∧ w.cell? (ad.add i.toNat) = some (.slice A0 (xs.getD i.toNat []).length c0) ∧ (xs.getD i.toNat []).length ≤ c0 ∧ (Kd.int .i64).C w A0 (xs.getD i.toNat []).length (xs.getD i.toNat []) := by
  obtain ⟨ad, c, e, _, hK, hc0⟩ := Kd.C_get h ([] : List Int) i h0 h1
  have hc : ∀ j u, c[j]? = some u → w.cell? (ad.add (i.toNat * 1 + j)) = some u := hc0
  obtain ⟨A0, c0, rfl, l0, g0⟩ := hK
  exact ⟨ad, A0, c0, e, by have hq := hc 0 _ rfl; rwa [Nat.mul_one, Nat.add_zero] at hq, l0, g0⟩
/-- Not to be held in 32 bits (or the lowest of them). -/
def bad (n : Int) : Bool := decide (n > 2147483647) || decide (n < -2147483647)
def badRow (cols : Int) (l : List Int) : Bool := decide ((l.length : Int) ≠ cols) || l.any bad
def matRight (m : List (List Int)) (rows cols : Int) : Bool := decide ((m.length : Int) = rows) && !m.any (badRow cols)

theorem bad_walk (x : Int) (w : World) : Calls Try.prog 41 #[.int .i64 x] w fun e w' => e = .returned (.bool (bad x)) ∧ Below w.heap.size w w' := by
  go_enter Try.func41, Try.ntmps41
  by_cases h1 : x > 2147483647
  · have hb : bad x = true := by simp [bad, h1]
    rw [hb]
    go_wp2
    go_ret
    exact ⟨by simp; omega, Below.refl _ _⟩
  · by_cases h2 : x < -2147483647
    · have hb : bad x = true := by simp [bad, h2]
      rw [hb]
      go_wp2
      go_ret
      exact ⟨by simp; omega, Below.refl _ _⟩
    · have hb : bad x = false := by simp [bad, h1, h2]
      rw [hb]
      go_wp2
      all_goals (go_ret; exact ⟨by first | (simp; done) | (simp; omega), Below.refl _ _⟩)
theorem any_hit {α : Type} (p : α → Bool) (xs : List α) (d : α) (i : Int) (h0 : 0 ≤ i) (h1 : i < (xs.length : Int)) (h : p (xs.getD i.toNat d) = true) : xs.any p = true := by
  have h' : i.toNat < xs.length := by omega
  rw [List.getD_eq_getElem?_getD, List.getElem?_eq_getElem h', Option.getD_some] at h
  exact List.any_eq_true.mpr ⟨_, List.getElem_mem h', h⟩
theorem any_miss {α : Type} (p : α → Bool) (xs : List α) (d : α) (h : ∀ j : Nat, j < xs.length → p (xs.getD j d) = false) : xs.any p = false := by
  rw [List.any_eq_false]
  intro x hx
  obtain ⟨j, hj, rfl⟩ := List.mem_iff_getElem.mp hx
  have := h j hj
  rw [List.getD_eq_getElem?_getD, List.getElem?_eq_getElem hj, Option.getD_some] at this
  simp [this]

set_option maxHeartbeats 1000000 in
theorem idx_int (A : Option Addr) (c : Nat) (xs : List Int) (w : World) (h : Kd.C (Kd.int .i64) w A xs.length xs) (hc : xs.length ≤ c) (hbig : xs.length ≤ 9223372036854775807) :
    Calls Try.prog 46 #[.slice A xs.length c, .func (.func 41) #[] #[]] w fun e w' => ∃ r : Int, e = .returned (.int .i64 r) ∧ decide (r ≥ 0) = xs.any bad ∧ Below w.heap.size w w' := by
  have HR := Aside0.mk h
  have HC := Aside0.mk hc
  clear h hc
  go_enter Try.func46, Try.ntmps46
  go_wp2
  go_loopg [5, 8] xs.length (fun gg _ s8 wr => ∃ i : Int, 0 ≤ i ∧ i ≤ (xs.length : Int) ∧ Aside0 ((xs.length : Int) - i ≤ gg) ∧ s8 = .int .i64 i ∧ Aside0 (Below w.heap.size w wr) ∧ Aside0 (∀ j : Nat, (j : Int) < i → bad (xs.getD j 0) = false))
  case atStart => exact ⟨0, Int.le_refl _, by omega, ⟨by omega⟩, rfl, ⟨Below.refl _ w⟩, ⟨fun j hj => by omega⟩⟩
  case round =>
    obtain ⟨i, h0, h1, HG, rfl, HB, HA⟩ := hrel
    by_cases hlt : i < (xs.length : Int)
    · obtain ⟨ad, e, hx⟩ := Kd.at_int (Kd.C_below HR.out HB.out) i h0 hlt
      cases e
      have hcall := bad_walk (rd xs i) wr
      generalize hy : rd xs i = y at hx hcall
      have HY := Aside0.mk hy
      clear hy
      cases hq : bad y with
      | true =>
        rw [hq] at hcall
        go_wp2_with (go_at_call 41; refine hcall.mono ?_; rintro e w' ⟨rfl, hb'⟩)
        go_ret
        refine ⟨_, rfl, ?_, HB.out.trans (hb'.mono HB.out.size)⟩
        rw [any_hit bad xs 0 i h0 hlt (by rw [show xs.getD i.toNat 0 = y from HY.out]; exact hq)]
        simp [h0]
      | false =>
        rw [hq] at hcall
        go_wp2_with (go_at_call 41; refine hcall.mono ?_; rintro e w' ⟨rfl, hb'⟩)
        go_roundg (gk - 1)
        case measure => have := HG.out; omega
        case rel =>
          refine ⟨i + 1, by omega, by omega, ⟨by have := HG.out; omega⟩, by go_num, ⟨HB.out.trans (hb'.mono HB.out.size)⟩, ⟨fun j hj => ?_⟩⟩
          by_cases e : (j : Int) = i
          · have : j = i.toNat := by omega
            subst this
            rw [show xs.getD i.toNat 0 = y from HY.out]; exact hq
          · exact HA.out j (by omega)
    · have hn : i = (xs.length : Int) := by omega
      subst hn
      go_wp2
      go_ret
      refine ⟨_, rfl, ?_, HB.out⟩
      rw [any_miss bad xs 0 (fun j hj => HA.out j (by omega))]
      decide
theorem has_int (A : Option Addr) (c : Nat) (xs : List Int) (w : World) (h : Kd.C (Kd.int .i64) w A xs.length xs) (hc : xs.length ≤ c) (hbig : xs.length ≤ 9223372036854775807) :
    Calls Try.prog 40 #[.slice A xs.length c, .func (.func 41) #[] #[]] w fun e w' => e = .returned (.bool (xs.any bad)) ∧ Below w.heap.size w w' := by
  have hcon := idx_int A c xs w h hc hbig
  clear h hc hbig
  generalize xs.any bad = r at hcon ⊢
  go_enter Try.func40, Try.ntmps40
  go_wp2_with (go_at_call 46; refine hcon.mono ?_; rintro e w' ⟨v, rfl, hv, hb'⟩)
  all_goals (go_ret; exact ⟨by first | (simp [← hv]; done) | (subst hv; simp; done) | (subst hv; simp; omega), hb'⟩)

/-- The closure over 'columns', which lies in the cell ⟨B, 0⟩. -/
theorem lit_row (A : Option Addr) (c : Nat) (xs : List Int) (cols : Int) (B : Nat) (w : World) (hcell : w.cell? ⟨B, 0, none⟩ = some (.int .i64 cols)) (h : Kd.C (Kd.int .i64) w A xs.length xs) (hc : xs.length ≤ c) (hbig : xs.length ≤ 9223372036854775807) :
    Calls Try.prog 39 #[.slice A xs.length c, .pointer (some ⟨B, 0, none⟩)] w fun e w' => e = .returned (.bool (badRow cols xs)) ∧ Below w.heap.size w w' := by
  have hcon := has_int A c xs w h hc hbig
  clear h hc hbig
  by_cases hl : (xs.length : Int) = cols
  · have hr : badRow cols xs = xs.any bad := by simp [badRow, hl]
    have hb : ((xs.length : Int) != cols) = false := bne_eq_false_iff_eq.mpr hl
    rw [hr]
    generalize xs.any bad = r at hcon ⊢
    go_enter Try.func39, Try.ntmps39
    go_wp2_with (go_at_call 40; refine hcon.mono ?_; rintro e w' ⟨rfl, hb'⟩)
    all_goals (go_ret; exact ⟨by first | rfl | (simp; done) | (simp [*]; done), by first | exact hb' | exact Below.refl _ _⟩)
  · have hr : badRow cols xs = true := by simp [badRow, hl]
    have hb : ((xs.length : Int) != cols) = true := bne_iff_ne.mpr hl
    rw [hr]
    go_enter Try.func39, Try.ntmps39
    go_wp2_with (go_at_call 40; refine hcon.mono ?_; rintro e w' ⟨rfl, hb'⟩)
    all_goals (go_ret; exact ⟨by first | rfl | (simp; done) | (simp [*]; done), by first | exact hb' | exact Below.refl _ _⟩)

set_option maxHeartbeats 1000000 in
theorem idx_row (A : Option Addr) (c : Nat) (xs : List (List Int)) (cols : Int) (B : Nat) (w : World) (hcell : w.cell? ⟨B, 0, none⟩ = some (.int .i64 cols)) (hB : B < w.heap.size) (h : Kd.C (Kd.slice 3 (Kd.int .i64)) w A xs.length xs) (hc : xs.length ≤ c) (hbig : xs.length ≤ 9223372036854775807) (hrows : ∀ l ∈ xs, l.length ≤ 9223372036854775807) :
    Calls Try.prog 45 #[.slice A xs.length c, .func (.func 39) #[] #[.pointer (some ⟨B, 0, none⟩)]] w fun e w' => ∃ r : Int, e = .returned (.int .i64 r) ∧ decide (r ≥ 0) = xs.any (badRow cols) ∧ Below w.heap.size w w' := by
  have HR := Aside0.mk h
  have HC := Aside0.mk hc
  have HL := Aside0.mk hrows
  have HX := Aside0.mk hcell
  have HBB := Aside0.mk hB
  clear h hc hrows hcell hB
  go_enter Try.func45, Try.ntmps45
  go_wp2
  go_loopg [5, 8] xs.length (fun gg _ s8 wr => ∃ i : Int, 0 ≤ i ∧ i ≤ (xs.length : Int) ∧ Aside0 ((xs.length : Int) - i ≤ gg) ∧ s8 = .int .i64 i ∧ Aside0 (Below w.heap.size w wr) ∧ Aside0 (∀ j : Nat, (j : Int) < i → badRow cols (xs.getD j []) = false))
  case atStart => exact ⟨0, Int.le_refl _, by omega, ⟨by omega⟩, rfl, ⟨Below.refl _ w⟩, ⟨fun j hj => by omega⟩⟩
  case round =>
    obtain ⟨i, h0, h1, HG, rfl, HB, HA⟩ := hrel
    by_cases hlt : i < (xs.length : Int)
    · obtain ⟨ad, A0, c0, e, hx, hl0, hin⟩ := at_L1 (Kd.C_below HR.out HB.out) i h0 hlt
      cases e
      have hmem : xs.getD i.toNat [] ∈ xs := by
        have h' : i.toNat < xs.length := by omega
        rw [List.getD_eq_getElem?_getD, List.getElem?_eq_getElem h', Option.getD_some]; exact List.getElem_mem h'
      have hcall := lit_row A0 c0 (xs.getD i.toNat []) cols B wr ((HB.out.cell (p := ⟨B, 0, none⟩) HBB.out).trans HX.out) hin hl0 (HL.out _ hmem)
      clear hin hmem
      generalize hy : xs.getD i.toNat [] = y at hx hcall hl0
      have HY := Aside0.mk hy
      have HL0 := Aside0.mk hl0
      clear hy hl0
      cases hq : badRow cols y with
      | true =>
        rw [hq] at hcall
        go_wp2_with (go_at_call 39; refine hcall.mono ?_; rintro e w' ⟨rfl, hb'⟩)
        go_ret
        refine ⟨_, rfl, ?_, HB.out.trans (hb'.mono HB.out.size)⟩
        rw [any_hit (badRow cols) xs [] i h0 hlt (by rw [HY.out]; exact hq)]
        simp [h0]
      | false =>
        rw [hq] at hcall
        go_wp2_with (go_at_call 39; refine hcall.mono ?_; rintro e w' ⟨rfl, hb'⟩)
        go_roundg (gk - 1)
        case measure => have := HG.out; omega
        case rel =>
          refine ⟨i + 1, by omega, by omega, ⟨by have := HG.out; omega⟩, by go_num, ⟨HB.out.trans (hb'.mono HB.out.size)⟩, ⟨fun j hj => ?_⟩⟩
          by_cases e : (j : Int) = i
          · have : j = i.toNat := by omega
            subst this
            rw [HY.out]; exact hq
          · exact HA.out j (by omega)
    · have hn : i = (xs.length : Int) := by omega
      subst hn
      go_wp2
      go_ret
      refine ⟨_, rfl, ?_, HB.out⟩
      rw [any_miss (badRow cols) xs [] (fun j hj => HA.out j (by omega))]
      decide

theorem has_row (A : Option Addr) (c : Nat) (xs : List (List Int)) (cols : Int) (B : Nat) (w : World) (hcell : w.cell? ⟨B, 0, none⟩ = some (.int .i64 cols)) (hB : B < w.heap.size) (h : Kd.C (Kd.slice 3 (Kd.int .i64)) w A xs.length xs) (hc : xs.length ≤ c) (hbig : xs.length ≤ 9223372036854775807) (hrows : ∀ l ∈ xs, l.length ≤ 9223372036854775807) :
    Calls Try.prog 38 #[.slice A xs.length c, .func (.func 39) #[] #[.pointer (some ⟨B, 0, none⟩)]] w fun e w' => e = .returned (.bool (xs.any (badRow cols))) ∧ Below w.heap.size w w' := by
  have hcon := idx_row A c xs cols B w hcell hB h hc hbig hrows
  clear h hc hbig hcell hB hrows
  generalize xs.any (badRow cols) = r at hcon ⊢
  go_enter Try.func38, Try.ntmps38
  go_wp2_with (go_at_call 45; refine hcon.mono ?_; rintro e w' ⟨v, rfl, hv, hb'⟩)
  all_goals (go_ret; exact ⟨by first | (simp [← hv]; done) | (subst hv; simp; done) | (subst hv; simp; omega), hb'⟩)

theorem right_any (A : Option Addr) (c : Nat) (xs : List (List Int)) (rows cols : Int) (w : World) (h : Kd.C (Kd.slice 3 (Kd.int .i64)) w A xs.length xs) (hc : xs.length ≤ c) (hbig : xs.length ≤ 9223372036854775807) (hrows : ∀ l ∈ xs, l.length ≤ 9223372036854775807) :
    Calls Try.prog 33 #[.slice A xs.length c, .int .i64 rows, .int .i64 cols] w fun e w' => e = .returned (.bool (matRight xs rows cols)) ∧ Below w.heap.size w w' := by
  have hb1 : Below w.heap.size w (w.alloc (.cells #[.int .i64 cols] 3)) := (Below.refl _ w).alloc (Nat.le_refl _) _
  have hcon := has_row A c xs cols w.heap.size (w.alloc (.cells #[.int .i64 cols] 3)) (by simp) (by simp) (Kd.C_below h hb1) hc hbig hrows
  clear h hc hbig hrows
  by_cases hl : (xs.length : Int) = rows
  · have hr : matRight xs rows cols = !xs.any (badRow cols) := by simp [matRight, hl]
    have hb : ((xs.length : Int) == rows) = true := beq_iff_eq.mpr hl
    rw [hr]
    generalize xs.any (badRow cols) = r at hcon ⊢
    go_enter Try.func33, Try.ntmps33
    go_wp2_with (go_at_call 38; refine hcon.mono ?_; rintro e w' ⟨rfl, hb'⟩)
    all_goals (go_ret; exact ⟨by first | rfl | (simp; done) | (simp [*]; done), by first | exact hb1.trans (hb'.mono (by simp)) | exact hb1⟩)
  · have hr : matRight xs rows cols = false := by simp [matRight, hl]
    have hb : ((xs.length : Int) == rows) = false := beq_eq_false_iff_ne.mpr hl
    rw [hr]
    go_enter Try.func33, Try.ntmps33
    go_wp2_with (go_at_call 38; refine hcon.mono ?_; rintro e w' ⟨rfl, hb'⟩)
    all_goals (go_ret; exact ⟨by first | rfl | (simp; done) | (simp [*]; done), by first | exact hb1.trans (hb'.mono (by simp)) | exact hb1⟩)
def mat_Right.f (l0 : List (List Int)) (a1 a2 : Int) : Option Bool := some (matRight l0 a1 a2)
theorem mat_Right.calls (A0 : Option Addr) (c0 : Nat) (l0 : List (List Int)) (a1 : Int) (a2 : Int) (r : Bool) (w : World) (hr0 : Kd.C (Kd.slice 3 (Kd.int .i64)) w A0 l0.length l0) (hc0 : l0.length ≤ c0) (h : mat_Right.f l0 a1 a2 = some r) :
    Calls Try.prog 33 #[.slice A0 l0.length c0, .int .i64 a1, .int .i64 a2] w fun e w' => e = .returned (.bool r) ∧ Below w.heap.size w w' := by
  obtain rfl := Option.some.inj h
  refine right_any A0 c0 l0 a1 a2 w hr0 hc0 hr0.2.1 (fun l hl => ?_)
  obtain ⟨j, hj, rfl⟩ := List.mem_iff_getElem.mp hl
  obtain ⟨_, _, _, _, _, _, hin⟩ := at_L1 hr0 (j : Int) (by omega) (by omega)
  have := hin.2.1
  rwa [show ((j : Int)).toNat = j by omega, List.getD_eq_getElem?_getD, List.getElem?_eq_getElem hj, Option.getD_some] at this
end Go.Proofs.Ytdcojbamfchgiaa.Right
