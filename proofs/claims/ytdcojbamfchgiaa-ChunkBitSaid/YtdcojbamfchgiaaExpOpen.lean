/- An expert that comes in by value: its two rows of rows, as rows that are read. -/
import Derived.Test.YtdcojbamfchgiaaProg
import Derived.Test.YtdcojbamfchgiaaWMore
import Derived.Deep.Fields
import Derived.Deep.Matrix
import Derived.ChangeSlices
import Derived.WideShapes
namespace Go.Proofs.Ytdcojbamfchgiaa.ExpOpen
open Go Go.ChangeShapes Go.WideShapes Go.RowKit Go.Deep Go.Proofs.YtdcojbamfchgiaaW.PrintWords
set_option linter.unusedSimpArgs false
section
variable {H : Type} {enc : TypeId × Value → H} {w : World} {base : Nat} {held : Bool}
theorem open_mat {fuel : Nat} {c0 : Value} {x : DataW H × List MemPlace} (h : DataW.trod enc Try.prog w base (fun _ => true) held fuel 22 [c0] = some x) :
    ∃ (A : Option Addr) (c : Nat) (l : List (List Int)), c0 = .slice A l.length c ∧ Kd.C (Kd.slice 3 (Kd.int .i64)) w A l.length l ∧ l.length ≤ c := by
  have h49 : Try.prog.cellsOf 49 = 1 := by kernel_rfl
  have h3 : Try.prog.cellsOf 3 = 1 := by kernel_rfl
  rcases open_int_rows Try.underlying22 Try.underlying49 Try.underlying3 h49 h3 h with ⟨hcs, _⟩ | ⟨a, len, cap, A, L, C, Z, hcs, _, hl, hm, _, hall⟩
  · injection hcs with hcs
    exact ⟨none, 0, [], hcs, ⟨rfl, by simp, fun h => absurd h (Nat.lt_irrefl _)⟩, Nat.le_refl _⟩
  · injection hcs with hcs
    have each : ∀ r, ∃ l : List Int, r < cap → L r = l.length ∧ (Kd.int .i64).C w (A r) l.length l ∧ l.length ≤ C r := by
      intro r
      by_cases hr : r < cap
      · obtain ⟨_, h1, h2, h3, h4, h5, h6⟩ := hall r hr
        have hrow : (A r = none ∧ L r = 0 ∧ C r = 0 ∧ Z r = []) ∨ ∃ x, A r = some x ∧ L r ≤ C r ∧ C r ≤ maxLen ∧ (Z r).length = C r ∧ (∀ i, i < (Z r).length → w.cell? (x.add i) = some (.int .i64 ((Z r).getD i 0))) ∧ ∀ n ∈ Z r, (Lit.int .i64 n).wf = true := by
          cases hA : A r with
          | none =>
            have hc := h5 hA
            exact .inl ⟨rfl, by omega, hc, List.eq_nil_of_length_eq_zero (by omega)⟩
          | some x => exact .inr ⟨x, rfl, h1, h2, h3, fun i hi => (h6 x hA).2 i (by omega), h4⟩
        obtain ⟨l, e, hR, _, _, hc⟩ := ReadsInt.ofRowC hrow
        exact ⟨l, fun _ => ⟨e, Kd.C_of_reads (d := (0 : Int)) (h1 := fun _ => rfl) hR, hc⟩⟩
      · exact ⟨[], fun h => absurd h hr⟩
    obtain ⟨F, hF⟩ := Classical.axiomOfChoice each
    refine ⟨some a, cap, (List.range len).map F, by rw [List.length_map, List.length_range]; exact hcs, ⟨rfl, by rw [List.length_map, List.length_range]; unfold maxLen at hm; omega, fun _ => ⟨a, rfl, ?_⟩⟩, by rw [List.length_map, List.length_range]; exact hl⟩
    intro j p hp
    rw [List.getElem?_map] at hp
    have hj : j < len := by
      rcases Nat.lt_or_ge j len with h' | h'
      · exact h'
      · rw [List.getElem?_eq_none (by rw [List.length_range]; exact h')] at hp; simp at hp
    rw [List.getElem?_range hj] at hp
    obtain rfl := Option.some.inj hp
    obtain ⟨e, hC, hc⟩ := hF j (by omega)
    have hcell := (hall j (by omega)).1
    refine ⟨[.slice (A j) (F j).length (C j)], rfl, ⟨A j, C j, rfl, hc, hC⟩, ?_⟩
    intro i u hu
    cases i with
    | zero =>
      simp only [List.getElem?_cons_zero, Option.some.injEq] at hu
      subst hu
      rw [show j * (Kd.slice 3 (Kd.int .i64)).sz + 0 = j by show j * 1 + 0 = j; omega, ← e]
      exact hcell
    | succ i => simp at hu
theorem open_exp {r : Reach} {b0 : Nat} {v : Value} {d : DataW H} {p : List MemPlace} (hv : Value.okWide Try.prog w r b0 24 v) (h : DataW.Trod enc Try.prog w base (fun _ => true) held 24 v d p) :
    ∃ (A0 : Option Addr) (c0 : Nat) (l0 : List (List Int)) (A1 : Option Addr) (c1 : Nat) (l1 : List (List Int)), v = .agg #[.slice A0 l0.length c0, .slice A1 l1.length c1] ∧ Kd.C (Kd.slice 3 (Kd.int .i64)) w A0 l0.length l0 ∧ l0.length ≤ c0 ∧ Kd.C (Kd.slice 3 (Kd.int .i64)) w A1 l1.length l1 ∧ l1.length ≤ c1 := by
  obtain ⟨cs, rfl, hsz⟩ := okWide_struct Try.underlying24 hv
  obtain ⟨L⟩ := cs
  have hC : Try.prog.cellsOf 24 = 2 := by kernel_rfl
  have h22 : Try.prog.cellsOf 22 = 1 := by kernel_rfl
  match L, hsz.trans hC with
  | [c0, c1], _ =>
    obtain ⟨fuel, hf⟩ := h
    obtain ⟨xs, n, _, _, _, hlen, hg⟩ := DataW.trod_struct Try.underlying24 hf
    match xs, hlen with
    | [y0, y1], _ =>
      have g0 := hg 0 _ rfl
      simp only [h22, Value.cells, List.drop_succ_cons, List.drop_zero, List.take_succ_cons, List.take_zero, List.getElem?_cons_succ, List.getElem?_cons_zero] at g0
      have g1 := hg 1 _ rfl
      simp only [h22, Value.cells, List.drop_succ_cons, List.drop_zero, List.take_succ_cons, List.take_zero, List.getElem?_cons_succ, List.getElem?_cons_zero] at g1
      obtain ⟨A0, k0, l0, rfl, hC0, hk0⟩ := open_mat g0
      obtain ⟨A1, k1, l1, rfl, hC1, hk1⟩ := open_mat g1
      exact ⟨A0, k0, l0, A1, k1, l1, rfl, hC0, hk0, hC1, hk1⟩
end
end Go.Proofs.Ytdcojbamfchgiaa.ExpOpen
