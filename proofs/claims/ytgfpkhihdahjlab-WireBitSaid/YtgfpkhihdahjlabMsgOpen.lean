/- A message that comes in by value: its ten numbers, and Vec's as a row that is read. -/
import Derived.Test.YtgfpkhihdahjlabProg
import Derived.Test.YtgfpkhihdahjlabWMore
import Derived.Deep.Fields
import Derived.ChangeSlices
import Derived.WideShapes
namespace Go.Proofs.Ytgfpkhihdahjlab.MsgOpen
open Go Go.ChangeShapes Go.WideShapes Go.RowKit Go.Deep Go.Proofs.YtgfpkhihdahjlabW.PrintWords
set_option linter.unusedSimpArgs false
section
variable {H : Type} {enc : TypeId × Value → H} {w : World} {base : Nat} {held : Bool}
theorem open_msg {r : Reach} {b0 : Nat} {v : Value} {d : DataW H} {p : List MemPlace} (hv : Value.okWide Try.prog w r b0 32 v) (h : DataW.Trod enc Try.prog w base (fun _ => true) held 32 v d p) :
    ∃ (m0 m1 m2 m3 m4 m5 m6 m7 m8 m9 : Int) (A : Option Addr) (c : Nat) (l : List Int), v = .agg #[.int .i64 m0, .int .i64 m1, .int .i64 m2, .int .i64 m3, .int .i64 m4, .int .i64 m5, .int .i64 m6, .int .i64 m7, .int .i64 m8, .int .i64 m9, .slice A l.length c] ∧ (Kd.int .i64).C w A l.length l ∧ l.length ≤ c ∧ l.length ≤ 9223372036854775807 := by
  obtain ⟨cs, rfl, hsz⟩ := okWide_struct Try.underlying32 hv
  obtain ⟨L⟩ := cs
  have hC : Try.prog.cellsOf 32 = 11 := by kernel_rfl
  have h3 : Try.prog.cellsOf 3 = 1 := by kernel_rfl
  have h30 : Try.prog.cellsOf 30 = 1 := by kernel_rfl
  match L, hsz.trans hC with
  | [c0, c1, c2, c3, c4, c5, c6, c7, c8, c9, c10], _ =>
    obtain ⟨fuel, hf⟩ := h
    obtain ⟨xs, n, _, _, _, hlen, hg⟩ := DataW.trod_struct Try.underlying32 hf
    match xs, hlen with
    | [y0, y1, y2, y3, y4, y5, y6, y7, y8, y9, y10], _ =>
      have g0 := hg 0 _ rfl
      simp only [h3, Value.cells, List.drop_succ_cons, List.drop_zero, List.take_succ_cons, List.take_zero, List.getElem?_cons_succ, List.getElem?_cons_zero] at g0
      obtain ⟨m0, e0, _, _⟩ := DataW.trod_int Try.underlying3 g0
      injection e0 with e0
      subst e0
      have g1 := hg 1 _ rfl
      simp only [h3, Value.cells, List.drop_succ_cons, List.drop_zero, List.take_succ_cons, List.take_zero, List.getElem?_cons_succ, List.getElem?_cons_zero] at g1
      obtain ⟨m1, e1, _, _⟩ := DataW.trod_int Try.underlying3 g1
      injection e1 with e1
      subst e1
      have g2 := hg 2 _ rfl
      simp only [h3, Value.cells, List.drop_succ_cons, List.drop_zero, List.take_succ_cons, List.take_zero, List.getElem?_cons_succ, List.getElem?_cons_zero] at g2
      obtain ⟨m2, e2, _, _⟩ := DataW.trod_int Try.underlying3 g2
      injection e2 with e2
      subst e2
      have g3 := hg 3 _ rfl
      simp only [h3, Value.cells, List.drop_succ_cons, List.drop_zero, List.take_succ_cons, List.take_zero, List.getElem?_cons_succ, List.getElem?_cons_zero] at g3
      obtain ⟨m3, e3, _, _⟩ := DataW.trod_int Try.underlying3 g3
      injection e3 with e3
      subst e3
      have g4 := hg 4 _ rfl
      simp only [h3, Value.cells, List.drop_succ_cons, List.drop_zero, List.take_succ_cons, List.take_zero, List.getElem?_cons_succ, List.getElem?_cons_zero] at g4
      obtain ⟨m4, e4, _, _⟩ := DataW.trod_int Try.underlying3 g4
      injection e4 with e4
      subst e4
      have g5 := hg 5 _ rfl
      simp only [h3, Value.cells, List.drop_succ_cons, List.drop_zero, List.take_succ_cons, List.take_zero, List.getElem?_cons_succ, List.getElem?_cons_zero] at g5
      obtain ⟨m5, e5, _, _⟩ := DataW.trod_int Try.underlying3 g5
      injection e5 with e5
      subst e5
      have g6 := hg 6 _ rfl
      simp only [h3, Value.cells, List.drop_succ_cons, List.drop_zero, List.take_succ_cons, List.take_zero, List.getElem?_cons_succ, List.getElem?_cons_zero] at g6
      obtain ⟨m6, e6, _, _⟩ := DataW.trod_int Try.underlying3 g6
      injection e6 with e6
      subst e6
      have g7 := hg 7 _ rfl
      simp only [h3, Value.cells, List.drop_succ_cons, List.drop_zero, List.take_succ_cons, List.take_zero, List.getElem?_cons_succ, List.getElem?_cons_zero] at g7
      obtain ⟨m7, e7, _, _⟩ := DataW.trod_int Try.underlying3 g7
      injection e7 with e7
      subst e7
      have g8 := hg 8 _ rfl
      simp only [h3, Value.cells, List.drop_succ_cons, List.drop_zero, List.take_succ_cons, List.take_zero, List.getElem?_cons_succ, List.getElem?_cons_zero] at g8
      obtain ⟨m8, e8, _, _⟩ := DataW.trod_int Try.underlying3 g8
      injection e8 with e8
      subst e8
      have g9 := hg 9 _ rfl
      simp only [h3, Value.cells, List.drop_succ_cons, List.drop_zero, List.take_succ_cons, List.take_zero, List.getElem?_cons_succ, List.getElem?_cons_zero] at g9
      obtain ⟨m9, e9, _, _⟩ := DataW.trod_int Try.underlying3 g9
      injection e9 with e9
      subst e9
      have g10 := hg 10 _ rfl
      simp only [h30, Value.cells, List.drop_succ_cons, List.drop_zero, List.take_succ_cons, List.take_zero, List.getElem?_cons_succ, List.getElem?_cons_zero] at g10
      have fin : ∃ (A : Option Addr) (len c : Nat) (zs : List Int), c10 = .slice A len c ∧ ((A = none ∧ len = 0 ∧ c = 0 ∧ zs = []) ∨ ∃ x, A = some x ∧ len ≤ c ∧ c ≤ maxLen ∧ zs.length = c ∧ (∀ i, i < zs.length → w.cell? (x.add i) = some (.int .i64 (zs.getD i 0))) ∧ ∀ n ∈ zs, (Lit.int .i64 n).wf = true) := by
        rcases open_ints Try.underlying30 Try.underlying3 h3 g10 with ⟨hcs, _⟩ | ⟨x, l, c, zs, hcs, _, hl, hm, hz, _, hcell, hwz⟩
        · injection hcs with hcs
          exact ⟨none, 0, 0, [], hcs, .inl ⟨rfl, rfl, rfl, rfl⟩⟩
        · injection hcs with hcs
          exact ⟨some x, l, c, zs, hcs, .inr ⟨x, rfl, hl, hm, by simpa using hz, hcell, hwz⟩⟩
      obtain ⟨A, len, c, zs, rfl, hrow⟩ := fin
      obtain ⟨l, rfl, hr, hm, _, hc⟩ := ReadsInt.ofRowC hrow
      exact ⟨m0, m1, m2, m3, m4, m5, m6, m7, m8, m9, A, c, l, rfl, Kd.C_of_reads (d := (0 : Int)) (h1 := fun _ => rfl) hr, hc, by unfold maxLen at hm; omega⟩
end
end Go.Proofs.Ytgfpkhihdahjlab.MsgOpen
