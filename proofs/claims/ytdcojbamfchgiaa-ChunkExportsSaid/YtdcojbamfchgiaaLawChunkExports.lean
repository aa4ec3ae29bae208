/- The row of the law ChunkExports: its walk is Hand.ChunkExports_walk. -/
import Derived.Test.YtdcojbamfchgiaaQChunkx28
import Derived.Test.YtdcojbamfchgiaaChunkFun
import Derived.Test.YtdcojbamfchgiaaChunkRef
import Derived.Test.YtdcojbamfchgiaaQChunkx29
import Derived.Test.YtdcojbamfchgiaaProg
import Derived.Test.YtdcojbamfchgiaaWMore
import Derived.Deep.Fields
import Derived.Deep.Matrix
import Derived.ChangeSlices
import Derived.WideShapes
import Derived.Test.YtdcojbamfchgiaaRows
import Derived.WalkKit
import Derived.ProofKit
import Derived.OpenShut
import Derived.ShutString
import Derived.ChangeOld
import Derived.Below
import Derived.SizedLaws
import Derived.Test.YtdcojbamfchgiaaWSized
/- What the reference's Export answers, in plain words; the laws of ChunkSizes and ChunkExports. -/
set_option linter.unusedVariables false
namespace Go.Proofs.Ytdcojbamfchgiaa.ChunkRex
open Go Go.RowKit Go.Proofs.Ytdcojbamfchgiaa.QChunk Go.Proofs.YtdcojbamfchgiaaW.PrintWords Go.Proofs.YtdcojbamfchgiaaW.PrintLast Go.Proofs.Ytdcojbamfchgiaa.Given Go.Proofs.Ytdcojbamfchgiaa.CrcThy Go.Proofs.Ytdcojbamfchgiaa.WireThy Go.Proofs.Ytdcojbamfchgiaa.Export Go.Proofs.Ytdcojbamfchgiaa.ChunkNum Go.Proofs.Ytdcojbamfchgiaa.ChunkImp Go.Proofs.Ytdcojbamfchgiaa.ChunkCut Go.Proofs.Ytdcojbamfchgiaa.ChunkTak Go.Proofs.Ytdcojbamfchgiaa.ChunkAwk Go.Proofs.Ytdcojbamfchgiaa.ChunkSame Go.Proofs.Ytdcojbamfchgiaa.ChunkRim
theorem bl_append (s t : ByteArray) : bl (s ++ t) = bl s ++ bl t := by unfold bl; rw [ByteArray.data_append, Array.toList_append]
def Held (l : List Int) : Prop := ∀ n ∈ l, -2147483648 ≤ n ∧ n ≤ 4294967295
theorem all_l1 (x : List (List Int)) (hx : Few x) (i : Nat) (hi : i < x.length) (hn : Held x[i]) (d : Nat) : ∀ (k j : Nat) (s : ByteArray), d + 1 ≤ k → j + d = (x[i]).length → s.size + 4 * d ≤ 1000000000 →
    ∃ t : ByteArray, switchboardref16_all.l1 k x s (i : Int) (j : Int) = switchboardref16_all.l0 (k - d - 1) x t ((i + 1 : Nat) : Int) ∧ bl t = bl s ++ flat ((x[i]).drop j) := by
  have hr := hx.2 _ (List.getElem_mem hi)
  have h1 := hx.1
  induction d with
  | zero =>
    intro k j s hk hj hs
    obtain ⟨k, rfl⟩ : ∃ m, k = m + 1 := ⟨k - 1, by omega⟩
    refine ⟨s, ?_, by rw [List.drop_of_length_le (by omega), flat_nil, List.append_nil]⟩
    rw [switchboardref16_all.l1, if_pos (by omega), if_pos (by omega), rd_row x i hi, if_neg (by omega), w64 (a := (i : Int) + 1) (by omega) (by omega)]
    rfl
  | succ d ih =>
    intro k j s hk hj hs
    obtain ⟨k, rfl⟩ : ∃ m, k = m + 1 := ⟨k - 1, by omega⟩
    have hlt : j < (x[i]).length := by omega
    have hb := hn _ (List.getElem_mem hlt)
    have hz : (s ++ fourS (x[i])[j]).size = s.size + 4 := by rw [ByteArray.size_append, fourS_size]
    obtain ⟨t, ht, htb⟩ := ih k (j + 1) (s ++ fourS (x[i])[j]) (by omega) (by omega) (by omega)
    refine ⟨t, ?_, ?_⟩
    · rw [switchboardref16_all.l1, if_pos (by omega), if_pos (by omega), rd_row x i hi, if_pos (by omega), if_pos (by omega), rd_nat _ j hlt, rfour_is _ (by omega) (by omega), Option.bind_some, if_pos (by rw [fourS_size]; omega), w64 (a := (j : Int) + 1) (by omega) (by omega), show (j : Int) + 1 = ((j + 1 : Nat) : Int) by omega, ht, show k + 1 - (d + 1) - 1 = k - d - 1 by omega]
    · rw [htb, bl_append, bl_four, List.drop_eq_getElem_cons hlt, flat_cons, List.append_assoc]
set_option maxRecDepth 100000 in
theorem all_l0 (x : List (List Int)) (hx : Few x) (hn : ∀ l ∈ x, Held l) (d : Nat) : ∀ (k i : Nat) (s : ByteArray), d * 1003 + 1 ≤ k → i + d = x.length → s.size + 4000 * d ≤ 1000000000 →
    ∃ t : ByteArray, switchboardref16_all.l0 k x s (i : Int) = some t ∧ bl t = bl s ++ flat (x.drop i).flatten := by
  induction d with
  | zero =>
    intro k i s hk hi hs
    obtain ⟨k, rfl⟩ : ∃ m, k = m + 1 := ⟨k - 1, by omega⟩
    refine ⟨s, ?_, by rw [List.drop_of_length_le (by omega), List.flatten_nil, flat_nil, List.append_nil]⟩
    rw [switchboardref16_all.l0, if_neg (by omega)]
  | succ d ih =>
    intro k i s hk hi hs
    rw [Nat.succ_mul] at hk
    obtain ⟨k, rfl⟩ : ∃ m, k = m + 1 := ⟨k - 1, by omega⟩
    have hlt : i < x.length := by omega
    have hr := hx.2 _ (List.getElem_mem hlt)
    obtain ⟨t, ht, htb⟩ := all_l1 x hx i hlt (hn _ (List.getElem_mem hlt)) (x[i]).length k 0 s (by omega) (by omega) (by omega)
    rw [List.drop_zero, show ((0 : Nat) : Int) = 0 from rfl] at *
    have htz : t.size = s.size + 4 * (x[i]).length := by rw [← bl_len, htb, List.length_append, bl_len, flat_len]
    obtain ⟨u, hu, hub⟩ := ih (k - (x[i]).length - 1) (i + 1) t (by omega) (by omega) (by omega)
    refine ⟨u, ?_, ?_⟩
    · rw [switchboardref16_all.l0, if_pos (by omega), ht, hu]
    · rw [hub, htb, List.drop_eq_getElem_cons hlt, List.flatten_cons, flat_append, List.append_assoc]
theorem all_is (x : List (List Int)) (hx : Few x) (hn : ∀ l ∈ x, Held l) (k : Nat) (hk : 1100000 ≤ k) : ∃ t : ByteArray, switchboardref16_all.f k x = some t ∧ bl t = flat x.flatten := by
  have h1 := hx.1
  obtain ⟨t, ht, hb⟩ := all_l0 x hx hn x.length k 0 (⟨#[]⟩ : ByteArray) (by omega) (by omega) (by have : (⟨#[]⟩ : ByteArray).size = 0 := rfl; omega)
  exact ⟨t, ht, by rw [hb]; rfl⟩
theorem rexport_is {x y : List (List Int)} {d : Int} (h : rightX x y d = true) (k : Nat) (hk : 1200000 ≤ k) : switchboardref16_Export.f k x y d = some (outS x y d) := by
  have p := right_p h
  have hf := few_right h
  have hd := p.dim_; have d8 := p.d8; have h8 := p.h8
  obtain ⟨t, ht, htb⟩ := all_is x hf.1 (fun l hl n hn => by have := (p.rx l hl).2 n hn; omega) k (by omega)
  obtain ⟨u, hu, hub⟩ := all_is y hf.2 (fun l hl n hn => by have := (p.ry l hl).2 n hn; omega) k (by omega)
  have hL := listX_len p
  have hhd : x.length * d.toNat ≤ 64 := Nat.mul_le_mul h8 d8
  have lx : t.size = 4 * (x.length * d.toNat) := by rw [← bl_len, htb, flat_len, flatten_len (fun l hl => (p.rx l hl).1)]
  have ly : u.size = 4 * (d.toNat * x.length) := by rw [← bl_len, hub, flat_len, flatten_len (fun l hl => (p.ry l hl).1), p.leny]
  rw [Nat.mul_comm d.toNat] at ly
  have hbody : bl (fourS (x.length : Int) ++ fourS d ++ t ++ u) = flat (listX x y d) := by
    rw [bl_append, bl_append, bl_append, bl_four, bl_four, htb, hub]
    unfold listX
    rw [flat_cons, flat_cons, flat_append]
    simp only [List.append_assoc]
  have hbz : (fourS (x.length : Int) ++ fourS d ++ t ++ u).size = 8 + t.size + u.size := by
    rw [ByteArray.size_append, ByteArray.size_append, ByteArray.size_append, fourS_size, fourS_size]
  unfold switchboardref16_Export.f
  rw [rfour_is _ (by omega) (by omega), Option.bind_some, rfour_is _ (by omega) (by omega), Option.bind_some, if_pos (by rw [fourS_size, fourS_size]; omega), ht, Option.bind_some, if_pos (by rw [ByteArray.size_append, fourS_size, fourS_size]; omega), hu, Option.bind_some, if_pos (by rw [ByteArray.size_append, ByteArray.size_append, fourS_size, fourS_size]; omega)]
  rw [ChunkSum.rsum_is _ (by rw [hbz]; omega) k (by rw [hbz]; omega), Option.bind_some]
  change (switchboardref16_four.f (crcI (bl (fourS (x.length : Int) ++ fourS d ++ t ++ u)))).bind _ = _
  rw [hbody, rfour_is _ (by have := crcI_lo (flat (listX x y d)); omega) (by have := crcI_hi (flat (listX x y d)); omega), Option.bind_some, if_pos (by rw [hbz, fourS_size]; omega)]
  congr 1
  apply ba_eq
  rw [bl_append, hbody, bl_four, bl_out]
  rfl
end Go.Proofs.Ytdcojbamfchgiaa.ChunkRex
namespace Go.Proofs.Ytdcojbamfchgiaa.Pure
open Go Go.RowKit Go.Proofs.Ytdcojbamfchgiaa.QChunk Go.Proofs.YtdcojbamfchgiaaW.PrintWords Go.Proofs.YtdcojbamfchgiaaW.PrintLast Go.Proofs.Ytdcojbamfchgiaa.ChunkNum Go.Proofs.Ytdcojbamfchgiaa.ChunkImp Go.Proofs.Ytdcojbamfchgiaa.ChunkCut Go.Proofs.Ytdcojbamfchgiaa.ChunkTak Go.Proofs.Ytdcojbamfchgiaa.ChunkAwk Go.Proofs.Ytdcojbamfchgiaa.ChunkSame Go.Proofs.Ytdcojbamfchgiaa.ChunkForm Go.Proofs.Ytdcojbamfchgiaa.ChunkRex

theorem exports_awake (x y : List (List Int)) (d size : Int) (k : Nat) (hk : 300 ≤ k) : switchboardlaw16_ChunkExports.j0 k d size true x y = some true := by
  obtain ⟨k, rfl⟩ : ∃ m, k = m + 1 := ⟨k - 1, by omega⟩
  rw [switchboardlaw16_ChunkExports.j0, if_pos rfl, awake_is _ (by omega), Option.bind_some]
theorem exports_yes (x y : List (List Int)) (d size : Int) (hx : Few x) (hy : Few y) (k : Nat) (hk : 2000000 ≤ k) : switchboardlaw16_ChunkExports.j0 k d size false x y = some true := by
  obtain ⟨k, rfl⟩ : ∃ m, k = m + 2 := ⟨k - 2, by omega⟩
  rw [switchboardlaw16_ChunkExports.j0, if_neg (by decide)]
  cases hr : rightX x y d with
  | false =>
    rw [ChunkAwk.export_no hr, Option.bind_some, rright_is x y d hx hy _ (by omega), hr, Option.bind_some, if_neg (by decide), if_pos (show (⟨#[]⟩ : ByteArray).toList = [] by rw [tl]; rfl), if_pos rfl, awake_is _ (by omega), Option.bind_some]
  | true =>
    have hsz := out_small hr
    rw [ChunkAwk.export_yes hr, Option.bind_some, rright_is x y d hx hy _ (by omega), hr, Option.bind_some, if_pos rfl]
    have hre := rexport_is hr k (by omega)
    by_cases hs : 1 ≤ size ∧ size ≤ 64
    · obtain ⟨n, rfl⟩ : ∃ n : Nat, size = (n : Int) := ⟨size.toNat, by omega⟩
      obtain ⟨l, hl, hb⟩ := cut_is (outS x y d) n (k + 1) (by omega) (by omega) (by omega) (by omega)
      have hj := join_cut (outS x y d) l n (by omega) (by omega) hb
      have hc : l.length = ((outS x y d).size + n - 1) / n := by
        have := congrArg List.length hb
        rwa [List.length_map, cutB_len n (by omega), bl_len] at this
      rw [hl, Option.bind_some, if_pos (show (n : Int) ≥ 1 from hs.1), decide_eq_true hs.2, show (true != true) = false from rfl, switchboardlaw16_ChunkExports.j1, if_neg (by decide), if_pos rfl, hj, Option.bind_some, import_out hr k (by omega), Option.bind_some, hre, Option.bind_some, if_pos rfl, if_pos rfl, if_neg (by omega)]
      have hq : (wrap64 (Int.tdiv (wrap64 (wrap64 (((outS x y d).size : Int) + (n : Int)) - 1)) (n : Int))) = (l.length : Int) := by
        have hle : l.length ≤ (outS x y d).size := cut_count _ l n (by omega) hb
        rw [w64 (a := ((outS x y d).size : Int) + (n : Int)) (by omega) (by omega), w64 (a := ((outS x y d).size : Int) + (n : Int) - 1) (by omega) (by omega), Int.tdiv_eq_ediv_of_nonneg (by omega), show ((outS x y d).size : Int) + (n : Int) - 1 = (((outS x y d).size + n - 1 : Nat) : Int) by omega, ← Int.natCast_ediv, ← hc, w64 (by omega) (by omega)]
      rw [if_pos hq.symm, same_is x y x y hx hy k (by omega), Option.bind_some, decide_eq_true (show x = x ∧ y = y from ⟨rfl, rfl⟩), if_pos rfl, if_pos rfl, if_pos rfl, awake_is _ (by omega), Option.bind_some]
    · have hno := cut_no (outS x y d) size (k + 1) hs (by omega)
      rw [hno, Option.bind_some]
      have hfin : switchboardlaw16_ChunkExports.j1 (k + 1) d size (outS x y d) 0 [] false false x y = some true := by
        rw [switchboardlaw16_ChunkExports.j1, if_neg (by decide), if_neg (by decide), hre, Option.bind_some, if_pos rfl, if_pos (show (([] : List ByteArray).length : Int) = 0 from rfl), awake_is _ (by omega), Option.bind_some]
      by_cases h1 : size ≥ 1
      · rw [if_pos h1, decide_eq_false (show ¬ size ≤ 64 by omega)]; exact hfin
      · rw [if_neg h1]; exact hfin
/-- The law, of the printed function. -/
theorem ChunkExports (x y : List (List Int)) (d size : Int) : ∃ k, switchboardlaw16_ChunkExports.f k x y d size = some true := by
  obtain ⟨b, hb, hs⟩ := small_is x
  obtain ⟨c, hc, ht⟩ := small_is y
  refine ⟨2000000, ?_⟩
  unfold switchboardlaw16_ChunkExports.f
  rw [hs _ (by omega), Option.bind_some]
  cases b with
  | false => rw [if_neg (by decide)]; exact exports_awake x y d size _ (by omega)
  | true =>
    rw [if_pos rfl, ht _ (by omega), Option.bind_some]
    cases c with
    | false => exact exports_awake x y d size _ (by omega)
    | true => exact exports_yes x y d size (hb rfl) (hc rfl) _ (Nat.le_refl _)
end Go.Proofs.Ytdcojbamfchgiaa.Pure
namespace Go.Proofs.Ytdcojbamfchgiaa.Hand
open Go Go.RowKit Go.Proofs.Ytdcojbamfchgiaa.QChunk Go.Proofs.YtdcojbamfchgiaaW.PrintWords
theorem ChunkExports_walk (A0 : Option Addr) (c0 : Nat) (l0 : List (List Int)) (B0 : Option Addr) (e0 : Nat) (m0 : List (List Int)) (a1 a2 : Int) (w : World)
    (hr0 : Kd.C (Kd.slice 3 (Kd.int .i64)) w A0 l0.length l0) (hc0 : l0.length ≤ c0) (hs0 : Kd.C (Kd.slice 3 (Kd.int .i64)) w B0 m0.length m0) (he0 : m0.length ≤ e0) (_w1 : (Lit.int .i64 a1).wf = true) (_w2 : (Lit.int .i64 a2).wf = true) :
    Calls Try.prog 5 #[.agg #[.slice A0 l0.length c0, .slice B0 m0.length e0], .int .i64 a1, .int .i64 a2] w fun e w' => e = .returned (.bool true) ∧ Below w.heap.size w w' := by
  obtain ⟨k, h⟩ := Pure.ChunkExports l0 m0 a1 a2
  exact switchboardlaw16_ChunkExports.calls k A0 c0 l0 B0 e0 m0 a1 a2 true w hr0 hc0 hs0 he0 h
end Go.Proofs.Ytdcojbamfchgiaa.Hand
/- An expert that comes in by value: its two rows of rows, as rows that are read. -/
namespace Go.Proofs.Ytdcojbamfchgiaa.ExpOpen
open Go Go.ChangeShapes Go.WideShapes Go.RowKit Go.Deep Go.Proofs.YtdcojbamfchgiaaW.PrintWords
set_option linter.unusedSimpArgs false
section
variable {H : Type} {enc : TypeId × Value → H} {w : World} {base : Nat} {held : Bool}
theorem open_mat {fuel : Nat} {c0 : Value} {x : DataW H × List MemPlace} (h : DataW.trod enc Try.prog w base (fun _ => true) held fuel 22 [c0] = some x) :
    ∃ (A : Option Addr) (c : Nat) (l : List (List Int)), c0 = .slice A l.length c ∧ Kd.C (Kd.slice 3 (Kd.int .i64)) w A l.length l ∧ l.length ≤ c := by
  have h49 : Try.prog.cellsOf 49 = 1 := by kernel_rfl
  have h3 : Try.prog.cellsOf 3 = 1 := by kernel_rfl
  rcases open_int_rows Try.underlying22 Try.underlying49 Try.underlying3 h49 h3 h with ⟨hcs, _⟩ | ⟨a, len, cap, A, L, C, Z, hcs, _, hl, hm, _, hall⟩
  · injection hcs with hcs
    exact ⟨none, 0, [], hcs, ⟨rfl, by simp, fun h => absurd h (Nat.lt_irrefl _)⟩, Nat.le_refl _⟩
  · injection hcs with hcs
    have each : ∀ r, ∃ l : List Int, r < cap → L r = l.length ∧ (Kd.int .i64).C w (A r) l.length l ∧ l.length ≤ C r := by
      intro r
      by_cases hr : r < cap
      · obtain ⟨_, h1, h2, h3, h4, h5, h6⟩ := hall r hr
        have hrow : (A r = none ∧ L r = 0 ∧ C r = 0 ∧ Z r = []) ∨ ∃ x, A r = some x ∧ L r ≤ C r ∧ C r ≤ maxLen ∧ (Z r).length = C r ∧ (∀ i, i < (Z r).length → w.cell? (x.add i) = some (.int .i64 ((Z r).getD i 0))) ∧ ∀ n ∈ Z r, (Lit.int .i64 n).wf = true := by
          cases hA : A r with
          | none =>
            have hc := h5 hA
            exact .inl ⟨rfl, by omega, hc, List.eq_nil_of_length_eq_zero (by omega)⟩
          | some x => exact .inr ⟨x, rfl, h1, h2, h3, fun i hi => (h6 x hA).2 i (by omega), h4⟩
        obtain ⟨l, e, hR, _, _, hc⟩ := ReadsInt.ofRowC hrow
        exact ⟨l, fun _ => ⟨e, Kd.C_of_reads (d := (0 : Int)) (h1 := fun _ => rfl) hR, hc⟩⟩
      · exact ⟨[], fun h => absurd h hr⟩
    obtain ⟨F, hF⟩ := Classical.axiomOfChoice each
    refine ⟨some a, cap, (List.range len).map F, by rw [List.length_map, List.length_range]; exact hcs, ⟨rfl, by rw [List.length_map, List.length_range]; unfold maxLen at hm; omega, fun _ => ⟨a, rfl, ?_⟩⟩, by rw [List.length_map, List.length_range]; exact hl⟩
    intro j p hp
    rw [List.getElem?_map] at hp
    have hj : j < len := by
      rcases Nat.lt_or_ge j len with h' | h'
      · exact h'
      · rw [List.getElem?_eq_none (by rw [List.length_range]; exact h')] at hp; simp at hp
    rw [List.getElem?_range hj] at hp
    obtain rfl := Option.some.inj hp
    obtain ⟨e, hC, hc⟩ := hF j (by omega)
    have hcell := (hall j (by omega)).1
    refine ⟨[.slice (A j) (F j).length (C j)], rfl, ⟨A j, C j, rfl, hc, hC⟩, ?_⟩
    intro i u hu
    cases i with
    | zero =>
      simp only [List.getElem?_cons_zero, Option.some.injEq] at hu
      subst hu
      rw [show j * (Kd.slice 3 (Kd.int .i64)).sz + 0 = j by show j * 1 + 0 = j; omega, ← e]
      exact hcell
    | succ i => simp at hu
theorem open_exp {r : Reach} {b0 : Nat} {v : Value} {d : DataW H} {p : List MemPlace} (hv : Value.okWide Try.prog w r b0 24 v) (h : DataW.Trod enc Try.prog w base (fun _ => true) held 24 v d p) :
    ∃ (A0 : Option Addr) (c0 : Nat) (l0 : List (List Int)) (A1 : Option Addr) (c1 : Nat) (l1 : List (List Int)), v = .agg #[.slice A0 l0.length c0, .slice A1 l1.length c1] ∧ Kd.C (Kd.slice 3 (Kd.int .i64)) w A0 l0.length l0 ∧ l0.length ≤ c0 ∧ Kd.C (Kd.slice 3 (Kd.int .i64)) w A1 l1.length l1 ∧ l1.length ≤ c1 := by
  obtain ⟨cs, rfl, hsz⟩ := okWide_struct Try.underlying24 hv
  obtain ⟨L⟩ := cs
  have hC : Try.prog.cellsOf 24 = 2 := by kernel_rfl
  have h22 : Try.prog.cellsOf 22 = 1 := by kernel_rfl
  match L, hsz.trans hC with
  | [c0, c1], _ =>
    obtain ⟨fuel, hf⟩ := h
    obtain ⟨xs, n, _, _, _, hlen, hg⟩ := DataW.trod_struct Try.underlying24 hf
    match xs, hlen with
    | [y0, y1], _ =>
      have g0 := hg 0 _ rfl
      simp only [h22, Value.cells, List.drop_succ_cons, List.drop_zero, List.take_succ_cons, List.take_zero, List.getElem?_cons_succ, List.getElem?_cons_zero] at g0
      have g1 := hg 1 _ rfl
      simp only [h22, Value.cells, List.drop_succ_cons, List.drop_zero, List.take_succ_cons, List.take_zero, List.getElem?_cons_succ, List.getElem?_cons_zero] at g1
      obtain ⟨A0, k0, l0, rfl, hC0, hk0⟩ := open_mat g0
      obtain ⟨A1, k1, l1, rfl, hC1, hk1⟩ := open_mat g1
      exact ⟨A0, k0, l0, A1, k1, l1, rfl, hC0, hk0, hC1, hk1⟩
end
end Go.Proofs.Ytdcojbamfchgiaa.ExpOpen
namespace Go.Proofs.Ytdcojbamfchgiaa.chunkExports
open Go Go.ChangeShapes Go.WideShapes Go.ChangeAt Go.RowKit
open Go.ChangeMaps (open_string shut_string)
set_option linter.unusedVariables false
theorem own : ownKnob Try.prog.godebug = none := by kernel_rfl
theorem laidOut : laidOutB Try.prog = true := by kernel_rfl
set_option maxRecDepth 100000 in
theorem lifted (os : Os) (started : os.Started) (H : Type) (enc : TypeId × Value → H) :
    ReturnsInHanded {} Try.checked os 5 .any (Rows.chunkExportsSpec.pre6 enc Try.prog Try.f5 Rows.chunkExportsRow.domain false) (Rows.chunkExportsSpec.post enc Try.prog Try.f5 false true false false) := by
  refine returnsInHanded_of_change_sized (C := Try.checked) own started (by kernel_rfl) Try.func5
    (ChangeSpec.witness6 (enc := enc) (C := Try.checked) false ⟨#[], #[.agg #[.slice none 0 0, .slice none 0 0], .int .i64 0, .int .i64 0], []⟩ 8 (by kernel_rfl) (by kernel_rfl) (by kernel_rfl) (by kernel_rfl)) ?_
  intro W base args ds gs before hval0 hW hcnd hsz0 _
  have hsz : (DataW.weightsEach Try.prog (Try.f5.params.toList ++ Rows.chunkExportsSpec.plain.varTypes Try.prog) (ds ++ gs)).all (· ≤ reachBytes) = true := hsz0
  have hval : ∀ (j : Nat) t v, Try.f5.params[j]? = some t → args[j]? = some v → Value.okWide Try.prog W .any base t v := hval0
  have hW' := hW
  obtain ⟨p, q, hA0, hV, rfl, hfz, hnd⟩ := hW
  have hA : DataW.TrodAll enc Try.prog W 0 (fun _ => true) true Try.f5.params.toList args.toList ds p := hA0
  rw [Try.params5] at hA hval hsz
  obtain ⟨v0, vs0, d0, ds0, p0, q0, hargs, rfl, rfl, h0, r0⟩ := trodAll_cons hA
  obtain ⟨v1, vs1, d1, ds1, p1, q1, rfl, rfl, rfl, h1, r1⟩ := trodAll_cons r0
  obtain ⟨v2, vs2, d2, ds2, p2, q2, rfl, rfl, rfl, h2, r2⟩ := trodAll_cons r1
  obtain ⟨rfl, rfl, rfl⟩ := trodAll_nil r2
  obtain rfl : args = #[v0, v1, v2] := by cases args; simp_all
  obtain ⟨rfl, rfl⟩ := trodVars_none hV
  have k0 := h0
  have lt0 : ∀ x ∈ p0, x.block < W.heap.size := by obtain ⟨m, hm⟩ := k0; exact DataW.trod_lt m _ _ _ hm
  obtain ⟨A0, c0, l0, B0, e0, m0, rfl, hr0, hc0, hs0, he0⟩ := ExpOpen.open_exp (hval 0 24 v0 rfl rfl) h0
  obtain ⟨a1, rfl, rfl, rfl, w1⟩ := open_int Try.underlying3 (hval 1 3 v1 rfl rfl) h1
  obtain ⟨a2, rfl, rfl, rfl, w2⟩ := open_int Try.underlying3 (hval 2 3 v2 rfl rfl) h2
  clear hA0 hval0 hsz0 hsz
  refine (Hand.ChunkExports_walk A0 c0 l0 B0 e0 m0 a1 a2 W hr0 hc0 hs0 he0 w1 w2).mono fun e W' ⟨he, bel⟩ => ?_
  subst he
  exact ⟨_, rfl, _, _, _, [], _, [], hW', trodAll_mk1 (shut_bool Try.underlying4 _), (trodAll_cons_mk (Below.trod laidOut (by kernel_rfl) (of_decide_eq_true (by kernel_rfl)) k0 bel lt0) (trodAll_cons_mk (shut_int Try.underlying3 w1) (trodAll_cons_mk (shut_int Try.underlying3 w2) trodAll_mk0))), rfl, bel.frame _, fun h => by cases h⟩
theorem over : Rows.chunkExportsRow.holds Try.pinned (OpenSpec.ofChange Rows.chunkExportsSpec) :=
  OpenClaim.holds_of_wide 5 Try.f5 rfl rfl rfl rfl rfl rfl rfl ⟨rfl, rfl, rfl, rfl, rfl⟩ rfl rfl rfl rfl rfl (by kernel_rfl) Try.func5 (by kernel_rfl)
    (of_decide_eq_true (by kernel_rfl)) (by unfold Func.isWrapper; first | (rw [if_pos (by decide +kernel)]; kernel_rfl) | (rw [if_neg (by decide +kernel)]; exact ⟨rfl, rfl⟩))
    (fun os started H enc _ => lifted os started H enc)
theorem proved : Rows.ChunkExportsSaid := over
#print axioms proved
end Go.Proofs.Ytdcojbamfchgiaa.chunkExports
namespace Go.Proofs.Ytdcojbamfchgiaa
/-- The row, under a short name, for the claim. -/
theorem chunkExports_holds : Rows.ChunkExportsSaid := chunkExports.proved
end Go.Proofs.Ytdcojbamfchgiaa
