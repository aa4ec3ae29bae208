import Derived.Test.YtdcojbamfchgiaaQChunkx20
import Derived.Test.YtdcojbamfchgiaaChunkRef
namespace Go.Proofs.Ytdcojbamfchgiaa.Pure
open Go Go.RowKit Go.Proofs.Ytdcojbamfchgiaa.QChunk Go.Proofs.YtdcojbamfchgiaaW.PrintWords Go.Proofs.YtdcojbamfchgiaaW.PrintLast Go.Proofs.Ytdcojbamfchgiaa.Export Go.Proofs.Ytdcojbamfchgiaa.ChunkNum Go.Proofs.Ytdcojbamfchgiaa.ChunkImp Go.Proofs.Ytdcojbamfchgiaa.ChunkCut Go.Proofs.Ytdcojbamfchgiaa.ChunkTak Go.Proofs.Ytdcojbamfchgiaa.ChunkAwk Go.Proofs.Ytdcojbamfchgiaa.ChunkSame

theorem sizes_awake (x y u v : List (List Int)) (d : Int) (k : Nat) (hk : 300 ≤ k) : switchboardlaw16_ChunkSizes.j0 k d true x y u v = some true := by
  obtain ⟨k, rfl⟩ : ∃ m, k = m + 1 := ⟨k - 1, by omega⟩
  rw [switchboardlaw16_ChunkSizes.j0, if_pos rfl, awake_is _ (by omega), Option.bind_some]
theorem nil_list : (⟨#[]⟩ : ByteArray).toList = [] := by rw [tl]; rfl
theorem out_inj {x y u v : List (List Int)} {d : Int} (h : rightX x y d = true) (g : rightX u v d = true) : ((outS x y d).toList == (outS u v d).toList) = decide (x = u ∧ y = v) := by
  rw [tl, tl, bl_out, bl_out]
  by_cases e : x = u ∧ y = v
  · obtain ⟨rfl, rfl⟩ := e
    rw [decide_eq_true ⟨rfl, rfl⟩]; exact beq_self_eq_true _
  · rw [decide_eq_false e, beq_eq_false_iff_ne]
    intro he
    have h1 := imp_out h
    rw [he, imp_out g] at h1
    simp only [Prod.mk.injEq] at h1
    exact e ⟨h1.1.symm, h1.2.1.symm⟩
theorem sizes_yes (x y u v : List (List Int)) (d : Int) (hx : Few x) (hy : Few y) (k : Nat) (hk : 3000 ≤ k) : switchboardlaw16_ChunkSizes.j0 k d false x y u v = some true := by
  obtain ⟨k, rfl⟩ : ∃ m, k = m + 2 := ⟨k - 2, by omega⟩
  rw [switchboardlaw16_ChunkSizes.j0, if_neg (by decide)]
  have ha := awake_is k (by omega)
  cases hr : rightX x y d with
  | false =>
    cases hg : rightX u v d with
    | false =>
      rw [ChunkAwk.export_no hr, Option.bind_some, ChunkAwk.export_no hg, Option.bind_some, if_neg (show ¬ ((1 : Int) = 0) by decide), switchboardlaw16_ChunkSizes.j1, if_pos rfl, if_neg (show ¬ ((1 : Int) = 0) by decide), if_pos nil_list, if_neg (show ¬ ((1 : Int) = 0) by decide), if_pos nil_list, ha, Option.bind_some]
    | true =>
      rw [ChunkAwk.export_no hr, Option.bind_some, ChunkAwk.export_yes hg, Option.bind_some, if_neg (show ¬ ((1 : Int) = 0) by decide), switchboardlaw16_ChunkSizes.j1, if_pos rfl, if_neg (show ¬ ((1 : Int) = 0) by decide), if_pos nil_list, if_pos rfl, ha, Option.bind_some]
  | true =>
    cases hg : rightX u v d with
    | false =>
      rw [ChunkAwk.export_yes hr, Option.bind_some, ChunkAwk.export_no hg, Option.bind_some, if_pos rfl, show ((1 : Int) != 0) = true from rfl, switchboardlaw16_ChunkSizes.j1, if_pos rfl, if_pos rfl, if_neg (show ¬ ((1 : Int) = 0) by decide), if_pos nil_list, ha, Option.bind_some]
    | true =>
      have p := right_p hr
      have hd := p.dim_; have d8 := p.d8; have h8 := p.h8
      have hhd : x.length * d.toNat ≤ 64 := Nat.mul_le_mul h8 d8
      have hm : (8 * (x.length : Int)) * d = ((8 * (x.length * d.toNat) : Nat) : Int) := by
        rw [hd, Int.toNat_natCast, Int.natCast_mul, Int.natCast_mul, Int.mul_assoc]; rfl
      have hsz := out_size hr
      rw [ChunkAwk.export_yes hr, Option.bind_some, ChunkAwk.export_yes hg, Option.bind_some, if_pos rfl, show ((0 : Int) != 0) = false from rfl, switchboardlaw16_ChunkSizes.j1, if_neg (by decide)]
      have hq : ((outS x y d).size : Int) = wrap64 (12 + wrap64 (wrap64 (8 * (x.length : Int)) * d)) := by
        rw [w64 (a := 8 * (x.length : Int)) (by omega) (by omega), hm, w64 (a := ((8 * (x.length * d.toNat) : Nat) : Int)) (by omega) (by omega), w64 (by omega) (by omega), hsz]; omega
      rw [if_pos hq, same_is x y u v hx hy k (by omega), Option.bind_some, if_pos (by rw [out_inj hr hg]; exact beq_self_eq_true _), ha, Option.bind_some]
/-- The law, of the printed function. -/
theorem ChunkSizes (x y u v : List (List Int)) (d : Int) : ∃ k, switchboardlaw16_ChunkSizes.f k x y u v d = some true := by
  obtain ⟨b0, hb0, h0⟩ := small_is x
  obtain ⟨b1, hb1, h1⟩ := small_is y
  obtain ⟨b2, hb2, h2⟩ := small_is u
  obtain ⟨b3, hb3, h3⟩ := small_is v
  refine ⟨4000, ?_⟩
  have no := sizes_awake x y u v d 4000 (by omega)
  unfold switchboardlaw16_ChunkSizes.f
  rw [h0 _ (by omega), Option.bind_some]
  cases b0 with
  | false => rw [if_neg (by decide)]; exact no
  | true =>
    rw [if_pos rfl, h1 _ (by omega), Option.bind_some]
    cases b1 with
    | false => rw [if_neg (by decide)]; exact no
    | true =>
      rw [if_pos rfl, h2 _ (by omega), Option.bind_some]
      cases b2 with
      | false => rw [if_neg (by decide)]; exact no
      | true =>
        rw [if_pos rfl, h3 _ (by omega), Option.bind_some]
        cases b3 with
        | false => exact no
        | true => exact sizes_yes x y u v d (hb0 rfl) (hb1 rfl) 4000 (by omega)
end Go.Proofs.Ytdcojbamfchgiaa.Pure
namespace Go.Proofs.Ytdcojbamfchgiaa.Hand
open Go Go.RowKit Go.Proofs.Ytdcojbamfchgiaa.QChunk Go.Proofs.YtdcojbamfchgiaaW.PrintWords
theorem ChunkSizes_walk (A0 : Option Addr) (c0 : Nat) (l0 : List (List Int)) (B0 : Option Addr) (e0 : Nat) (m0 : List (List Int)) (A1 : Option Addr) (c1 : Nat) (l1 : List (List Int)) (B1 : Option Addr) (e1 : Nat) (m1 : List (List Int)) (a2 : Int) (w : World)
    (hr0 : Kd.C (Kd.slice 3 (Kd.int .i64)) w A0 l0.length l0) (hc0 : l0.length ≤ c0) (hs0 : Kd.C (Kd.slice 3 (Kd.int .i64)) w B0 m0.length m0) (he0 : m0.length ≤ e0) (hr1 : Kd.C (Kd.slice 3 (Kd.int .i64)) w A1 l1.length l1) (hc1 : l1.length ≤ c1) (hs1 : Kd.C (Kd.slice 3 (Kd.int .i64)) w B1 m1.length m1) (he1 : m1.length ≤ e1) (_w2 : (Lit.int .i64 a2).wf = true) :
    Calls Try.prog 3 #[.agg #[.slice A0 l0.length c0, .slice B0 m0.length e0], .agg #[.slice A1 l1.length c1, .slice B1 m1.length e1], .int .i64 a2] w fun e w' => e = .returned (.bool true) ∧ Below w.heap.size w w' := by
  obtain ⟨k, h⟩ := Pure.ChunkSizes l0 m0 l1 m1 a2
  exact switchboardlaw16_ChunkSizes.calls k A0 c0 l0 B0 e0 m0 A1 c1 l1 B1 e1 m1 a2 true w hr0 hc0 hs0 he0 hr1 hc1 hs1 he1 h
end Go.Proofs.Ytdcojbamfchgiaa.Hand
