/- What chunk.Export computes: the walk of its Go text, in the form of a printed function. -/
import Derived.Test.YtdcojbamfchgiaaRExpertx
import Derived.Test.YtdcojbamfchgiaaBuild
import Derived.Test.YtdcojbamfchgiaaWireThy
namespace Go.Proofs.Ytdcojbamfchgiaa.Export
open Go Go.RowKit Go.Proofs.YtdcojbamfchgiaaW.PrintWords Go.Proofs.Ytdcojbamfchgiaa.Given Go.Proofs.Ytdcojbamfchgiaa.Right Go.Proofs.Ytdcojbamfchgiaa.RExpert Go.Proofs.Ytdcojbamfchgiaa.WireThy
def fourS (n : Int) : ByteArray := strOfNums [n % 256, n / 256 % 256, n / 65536 % 256, n / 16777216 % 256]
theorem fourS_bytes (n : Int) : (fourS n).data.toList = fourB n := by unfold fourS strOfNums fourB; simp
theorem fourS_size (n : Int) : (fourS n).size = 4 := rfl
theorem four_call (n : Int) (w : World) : Calls Try.prog 21 #[.int .i64 n] w fun e w' => e = .returned (.string (fourS n)) ∧ Below w.heap.size w w' := chunk_four.calls n (fourS n) w rfl
/-- The numbers that are written. -/
def listX (x y : List (List Int)) (dim : Int) : List Int := (x.length : Int) :: dim :: (x.flatten ++ y.flatten)
noncomputable def outX (x y : List (List Int)) (dim : Int) : List UInt8 := flat (listX x y dim) ++ fourB (crcI (flat (listX x y dim)))
theorem bld_below {B b : Nat} {bs : List Value} {w w' : World} (h : Lib.IsBuilderF 52 5 B b bs w) (hb : Below w.heap.size w w') : Lib.IsBuilderF 52 5 B b bs w' := by
  have key : ∀ p, Lib.BuilderAtF 52 5 B b p bs w → Lib.BuilderAtF 52 5 B b p bs w' := by
    rintro p ⟨hB, v, hbk, hown, hne⟩
    have hlt : b < w.heap.size := (Array.getElem?_eq_some_iff.1 hbk).1
    refine ⟨hB, v, (hb.block b hlt).trans hbk, ⟨hown.1, ?_⟩, hne⟩
    rcases hown.2 with hn | ⟨g, cap, cur, fz, hv, hg, hh, rest⟩
    · exact .inl hn
    · exact .inr ⟨g, cap, cur, fz, hv, hg, (hb.block g (Array.getElem?_eq_some_iff.1 hh).1).trans hh, rest⟩
  exact h.imp (key _) (key _)
theorem bld_new (w : World) : Lib.IsBuilderF 52 5 w.heap.size w.heap.size [] (w.alloc (.cells #[.pointer none, .slice none 0 0] 52)) := by
  refine .inl ⟨Nat.le_refl _, .slice none 0 0, ?_, World.ownsRowF_nil _ _ _ _, by simp [Value.ownBlock]⟩
  exact blk_new w _
theorem export_no (A0_0 : Option Addr) (c0_0 : Nat) (l0_0 : List (List Int)) (A0_1 : Option Addr) (c0_1 : Nat) (l0_1 : List (List Int)) (a1 : Int) (w : World) (hr0_0 : Kd.C (Kd.slice 3 (Kd.int .i64)) w A0_0 l0_0.length l0_0) (hc0_0 : l0_0.length ≤ c0_0) (hr0_1 : Kd.C (Kd.slice 3 (Kd.int .i64)) w A0_1 l0_1.length l0_1) (hc0_1 : l0_1.length ≤ c0_1) (h : expert_Right.f l0_0 l0_1 a1 = some false) :
    Calls Try.prog 11 #[.agg #[.slice A0_0 l0_0.length c0_0, .slice A0_1 l0_1.length c0_1], .int .i64 a1] w fun e w' => e = .returned (.tuple #[.string ⟨#[]⟩, .int .i64 1]) ∧ Below w.heap.size w w' := by
  have hu24 := Try.underlying24
  have hb0 : Below w.heap.size w (w.alloc (.cells #[.slice A0_0 l0_0.length c0_0, .slice A0_1 l0_1.length c0_1] 24)) := (Below.refl _ w).alloc (Nat.le_refl _) _
  have hcon := expert_Right.calls A0_0 c0_0 l0_0 A0_1 c0_1 l0_1 a1 false (w.alloc (.cells #[.slice A0_0 l0_0.length c0_0, .slice A0_1 l0_1.length c0_1] 24)) (Kd.C_below hr0_0 hb0) hc0_0 (Kd.C_below hr0_1 hb0) hc0_1 h
  go_enter Try.func11, Try.ntmps11
  go_wp2_with (go_at_call 19; refine hcon.mono ?_; rintro e w' ⟨rfl, hb'⟩)
  go_ret2
  exact ⟨rfl, hb0.trans (hb'.mono (by simp))⟩
theorem right_facts {x y : List (List Int)} {dim : Int} (h : expert_Right.f x y dim = some true) : (1 ≤ dim ∧ dim ≤ 8) ∧ (1 ≤ x.length ∧ x.length ≤ 8) ∧ (matRight x x.length dim = true ∧ matRight y dim x.length = true) := by
  unfold expert_Right.f mat_Right.f at h
  split at h
  · split at h
    · split at h
      · split at h
        · simp only [Option.bind_some] at h
          split at h
          · rename_i h1 h2 h3 h4 h5
            exact ⟨⟨h1, h2⟩, ⟨by omega, by omega⟩, h5, by simpa using h⟩
          · simp at h
        · simp at h
      · simp at h
    · simp at h
  · simp at h
theorem mat_facts {m : List (List Int)} {r c : Int} (h : matRight m r c = true) : (m.length : Int) = r ∧ ∀ l ∈ m, (l.length : Int) = c ∧ ∀ n ∈ l, -2147483647 ≤ n ∧ n ≤ 2147483647 := by
  unfold matRight at h
  simp only [Bool.and_eq_true, decide_eq_true_eq, Bool.not_eq_true', List.any_eq_false] at h
  refine ⟨h.1, fun l hl => ?_⟩
  have := h.2 l hl
  unfold badRow at this
  simp only [Bool.or_eq_true, decide_eq_true_eq, List.any_eq_true, not_or, not_exists, not_and] at this
  refine ⟨by omega, fun n hn => ?_⟩
  have := this.2 n hn
  unfold bad at this
  simp only [Bool.or_eq_true, decide_eq_true_eq] at this
  omega
structure Inv (w : World) (b L : Nat) (cs : Array Value) (acc : List Int) (wr : World) : Prop where
  below : Below w.heap.size w wr
  bld : Lib.IsBuilderF 52 5 b b (Lib.byteCells (flat acc)) wr
  lit : wr.heap[L]? = some (.cells cs 22 (0, 0))
  lt : b < wr.heap.size
theorem Inv.step {w : World} {b L : Nat} {cs : Array Value} {acc : List Int} {wr wr' : World} (h : Inv w b L cs acc wr) (hb : Below wr.heap.size wr wr') : Inv w b L cs acc wr' :=
  ⟨h.below.trans (hb.mono h.below.size), bld_below h.bld hb, (hb.block L (Array.getElem?_eq_some_iff.1 h.lit).1).trans h.lit, Nat.lt_of_lt_of_le h.lt hb.size⟩
theorem Inv.wrote {w : World} {b L : Nat} {cs : Array Value} {acc : List Int} {wr wr' : World} (n : Int) (h : Inv w b L cs acc wr) (hw : w.heap.size ≤ b) (hL : L ≠ b) (hn : Lib.IsBuilderF 52 5 b b (Lib.byteCells (flat acc) ++ Lib.strCells (fourS n)) wr') (hb : Below b wr wr') (hk : Build.KeepT b wr wr') : Inv w b L cs (acc ++ [n]) wr' :=
  ⟨h.below.trans (hb.mono hw), by rw [flat_append, Lib.byteCells_append]; rw [Lib.strCells_eq, fourS_bytes] at hn; exact hn, (hk L _ _ _ h.lit (by decide) hL).trans h.lit, Nat.lt_of_lt_of_le h.lt hb.size⟩
theorem flatten_le {l : List (List Int)} {K : Nat} (h : ∀ r ∈ l, r.length ≤ K) : l.flatten.length ≤ l.length * K := by
  induction l with
  | nil => simp
  | cons r l ih =>
    rw [List.flatten_cons, List.length_append, List.length_cons, Nat.add_mul]
    have := h r (List.mem_cons_self)
    have := ih (fun r hr => h r (List.mem_cons_of_mem _ hr))
    omega
theorem take_le (l : List (List Int)) (i : Nat) : (l.take i).flatten.length ≤ l.flatten.length := by
  conv => rhs; rw [← List.take_append_drop i l]
  rw [List.flatten_append, List.length_append]; omega
theorem cell_lt {w : World} {p : Addr} {v : Value} (h : w.cell? p = some v) : p.block < w.heap.size := by
  rcases Nat.lt_or_ge p.block w.heap.size with h' | h'
  · exact h'
  · simp [World.cell?, Array.getElem?_eq_none h'] at h
theorem acc_len (l : List Int) : (Lib.byteCells (flat l)).length = 4 * l.length := by rw [Lib.byteCells_length, flat_len]
theorem take_snoc {α : Type} (xs : List α) (d : α) (i : Int) (h0 : 0 ≤ i) (h1 : i < (xs.length : Int)) : xs.take (i + 1).toNat = xs.take i.toNat ++ [xs.getD i.toNat d] := by
  have h' : i.toNat < xs.length := by omega
  rw [show (i + 1).toNat = i.toNat + 1 by omega, List.take_succ_eq_append_getElem h', List.getD_eq_getElem?_getD, List.getElem?_eq_getElem h', Option.getD_some]
set_option maxHeartbeats 1000000 in
theorem export_yes (A0_0 : Option Addr) (c0_0 : Nat) (l0_0 : List (List Int)) (A0_1 : Option Addr) (c0_1 : Nat) (l0_1 : List (List Int)) (a1 : Int) (w : World) (hr0_0 : Kd.C (Kd.slice 3 (Kd.int .i64)) w A0_0 l0_0.length l0_0) (hc0_0 : l0_0.length ≤ c0_0) (hr0_1 : Kd.C (Kd.slice 3 (Kd.int .i64)) w A0_1 l0_1.length l0_1) (hc0_1 : l0_1.length ≤ c0_1) (h : expert_Right.f l0_0 l0_1 a1 = some true) :
    Calls Try.prog 11 #[.agg #[.slice A0_0 l0_0.length c0_0, .slice A0_1 l0_1.length c0_1], .int .i64 a1] w fun e w' => e = .returned (.tuple #[.string ⟨(outX l0_0 l0_1 a1).toArray⟩, .int .i64 0]) ∧ Below w.heap.size w w' := by
  have hu24 := Try.underlying24
  have hb0 : Below w.heap.size w (w.alloc (.cells #[.slice A0_0 l0_0.length c0_0, .slice A0_1 l0_1.length c0_1] 24)) := (Below.refl _ w).alloc (Nat.le_refl _) _
  have hcon := expert_Right.calls A0_0 c0_0 l0_0 A0_1 c0_1 l0_1 a1 true (w.alloc (.cells #[.slice A0_0 l0_0.length c0_0, .slice A0_1 l0_1.length c0_1] 24)) (Kd.C_below hr0_0 hb0) hc0_0 (Kd.C_below hr0_1 hb0) hc0_1 h
  have hblk : (w.alloc (.cells #[.slice A0_0 l0_0.length c0_0, .slice A0_1 l0_1.length c0_1] 24)).heap[w.heap.size]? = some (.cells #[.slice A0_0 l0_0.length c0_0, .slice A0_1 l0_1.length c0_1] 24 (0, 0)) := blk_new w _
  have HF := Aside0.mk (right_facts h)
  have HR0 := Aside0.mk hr0_0
  have HR1 := Aside0.mk hr0_1
  have HC0 := Aside0.mk hc0_0
  have HC1 := Aside0.mk hc0_1
  clear hr0_0 hr0_1 hc0_0 hc0_1 h
  obtain ⟨S1, hS1, e1⟩ : ∃ S, S.size = 4 ∧ Aside0 (fourS (l0_0.length : Int) = S) := ⟨_, fourS_size _, ⟨rfl⟩⟩
  obtain ⟨S2, hS2, e2⟩ : ∃ S, S.size = 4 ∧ Aside0 (fourS a1 = S) := ⟨_, fourS_size _, ⟨rfl⟩⟩
  go_enter Try.func11, Try.ntmps11
  go_wp2_with (first
    | (go_at_call 19; refine hcon.mono ?_; rintro e w1 ⟨rfl, hb1⟩; clear hcon
       have HB0 := Aside0.mk (hb0.trans (hb1.mono (by simp)))
       have hbx := (hb1.block w.heap.size (by simp)).trans hblk
       have HX := Aside0.mk hbx
       have hx0 : w1.cell? ⟨w.heap.size, 0, none⟩ = some (.slice A0_0 l0_0.length c0_0) := by rw [Lib.cell_of_heap hbx]; rfl
       have hx1 : w1.cell? ⟨w.heap.size, 1, none⟩ = some (.slice A0_1 l0_1.length c0_1) := by rw [Lib.cell_of_heap hbx]; rfl
       have hsz : w.heap.size < w1.heap.size := (Array.getElem?_eq_some_iff.1 hbx).1
       clear hbx hb1 hblk hb0))
  obtain ⟨b, hbE⟩ : ∃ b, w1.heap.size = b := ⟨_, rfl⟩
  have hbld := bld_new w1
  have hbw : Below b w1 (w1.alloc (.cells #[.pointer none, .slice none 0 0] 52)) := by rw [← hbE]; exact (Below.refl _ w1).alloc (Nat.le_refl _) _
  have hbs : b < (w1.alloc (.cells #[.pointer none, .slice none 0 0] 52)).heap.size := by rw [← hbE]; simp
  rw [hbE] at hbld hsz ⊢
  generalize w1.alloc (.cells #[.pointer none, .slice none 0 0] 52) = wb at hbld hbw hbs ⊢
  refine (four_call _ _).mono ?_
  rintro e w2 ⟨rfl, hb2⟩
  rw [e1.out]
  replace hbw := hbw.trans (hb2.mono (Nat.le_of_lt hbs))
  replace hbs := Nat.lt_of_lt_of_le hbs hb2.size
  replace hbld := bld_below hbld hb2
  clear hb2 wb
  go_wp2_with fail
  refine (four_call _ _).mono ?_
  rintro e w3 ⟨rfl, hb2⟩
  rw [e2.out]
  replace hbw := hbw.trans (hb2.mono (Nat.le_of_lt hbs))
  replace hbs := Nat.lt_of_lt_of_le hbs hb2.size
  replace hbld := bld_below hbld hb2
  clear hb2 w2
  go_wp2_with fail
  refine (Build.WriteString b b [] (S1 ++ S2) w3 hbld (by rw [ByteArray.size_append]; simp; omega) (Nat.le_of_lt hbs)).mono ?_
  rintro e w4 ⟨rfl, hbld', hb4, -⟩
  replace hbld := hbld'
  clear hbld'
  rw [show ([] ++ Lib.strCells (S1 ++ S2)) = Lib.byteCells (flat [(l0_0.length : Int), a1]) by rw [List.nil_append, Lib.strCells_eq, ByteArray.data_append, Array.toList_append, ← e1.out, ← e2.out, fourS_bytes, fourS_bytes]; rfl] at hbld
  replace hbw := hbw.trans hb4
  replace hbs := Nat.lt_of_lt_of_le hbs hb4.size
  clear hb4
  have hx0' : w4.cell? ⟨w.heap.size, 0, none⟩ = some (.slice A0_0 l0_0.length c0_0) := (hbw.cell (p := ⟨w.heap.size, 0, none⟩) hsz).trans hx0
  have hx1' : w4.cell? ⟨w.heap.size, 1, none⟩ = some (.slice A0_1 l0_1.length c0_1) := (hbw.cell (p := ⟨w.heap.size, 1, none⟩) hsz).trans hx1
  have HBA := Aside0.mk (HB0.out.trans (hbw.mono (Nat.le_of_lt hsz)))
  clear hx0 hx1 hbw HX w3
  have HBLD := Aside0.mk hbld
  clear hbld
  go_wp2
  obtain ⟨L, hLE⟩ : ∃ L, w4.heap.size = L := ⟨_, rfl⟩
  have hlit : (w4.alloc (.cells #[.slice A0_0 l0_0.length c0_0, .slice A0_1 l0_1.length c0_1] 22)).heap[w4.heap.size]? = some (.cells #[.slice A0_0 l0_0.length c0_0, .slice A0_1 l0_1.length c0_1] 22 (0, 0)) := blk_new w4 _
  have hba : Below w4.heap.size w4 (w4.alloc (.cells #[.slice A0_0 l0_0.length c0_0, .slice A0_1 l0_1.length c0_1] 22)) := (Below.refl _ w4).alloc (Nat.le_refl _) _
  have hInv : Inv w b w4.heap.size #[.slice A0_0 l0_0.length c0_0, .slice A0_1 l0_1.length c0_1] [(l0_0.length : Int), a1] (w4.alloc (.cells #[.slice A0_0 l0_0.length c0_0, .slice A0_1 l0_1.length c0_1] 22)) :=
    ⟨HBA.out.trans (hba.mono HBA.out.size), bld_below HBLD.out hba, hlit, Nat.lt_of_lt_of_le hbs hba.size⟩
  clear hlit hba
  rw [hLE] at hInv hbs ⊢
  generalize w4.alloc (.cells #[.slice A0_0 l0_0.length c0_0, .slice A0_1 l0_1.length c0_1] 22) = wL at hInv ⊢
  have HLb := Aside0.mk (show L ≠ b by omega)
  have HWb := Aside0.mk (show w.heap.size ≤ b by omega)
  have HI := Aside0.mk hInv
  clear hInv hx0' hx1' HBA HBLD hbs hLE w4 hsz HB0 hbE w1
  go_loopg [31] 2 (fun gg v31 wr => ∃ j : Nat, j ≤ 2 ∧ Aside0 (2 - j ≤ gg) ∧ v31 = .int .i64 j ∧ Aside0 (Inv w b L #[.slice A0_0 l0_0.length c0_0, .slice A0_1 l0_1.length c0_1] ([(l0_0.length : Int), a1] ++ ([l0_0, l0_1].take j).flatten.flatten) wr))
  case atStart => exact ⟨0, by omega, ⟨by omega⟩, rfl, by simpa using HI⟩
  case round =>
    clear HI
    obtain ⟨j, hj, HG, rfl, HI⟩ := hrel
    obtain ⟨gk2, HGK2⟩ : ∃ g, Aside0 (g = gk) := ⟨_, ⟨rfl⟩⟩
    by_cases hlt : (j : Int) < 2
    · have hel : ∃ A c m, wr.cell? ⟨L, j, none⟩ = some (.slice A m.length c) ∧ m.length ≤ c ∧ Kd.C (Kd.slice 3 (Kd.int .i64)) w A m.length m ∧ [l0_0, l0_1].take (j + 1) = [l0_0, l0_1].take j ++ [m] ∧ m.length ≤ 8 ∧ (∀ r ∈ m, r.length ≤ 8) ∧ ([l0_0, l0_1].take j).flatten.flatten.length ≤ 64 := by
        have hF := HF.out
        have h0 := mat_facts hF.2.2.1
        have h1 := mat_facts hF.2.2.2
        have hl0 : l0_0.flatten.length ≤ l0_0.length * 8 := flatten_le (fun r hr => by have := (h0.2 r hr).1; omega)
        rcases Nat.lt_or_ge j 1 with hj0 | hj1
        · obtain rfl : j = 0 := by omega
          exact ⟨A0_0, c0_0, l0_0, by rw [Lib.cell_of_heap HI.out.lit]; rfl, HC0.out, HR0.out, rfl, hF.2.1.2, fun r hr => by have := (h0.2 r hr).1; omega, by simp⟩
        · obtain rfl : j = 1 := by omega
          refine ⟨A0_1, c0_1, l0_1, by rw [Lib.cell_of_heap HI.out.lit]; rfl, HC1.out, HR1.out, rfl, by omega, fun r hr => by have := (h1.2 r hr).1; omega, ?_⟩
          have : ([l0_0, l0_1].take 1).flatten.flatten = l0_0.flatten := by simp
          rw [this]; omega
      obtain ⟨A, c, m, hcell, hmc, hmC, htake, hm8, hr8, hpre⟩ := hel
      have HMC := Aside0.mk hmC
      have HMc := Aside0.mk hmc
      have HTK := Aside0.mk htake
      have HM8 := Aside0.mk hm8
      have HR8 := Aside0.mk hr8
      have HPRE := Aside0.mk hpre
      clear hmc hmC htake hm8 hr8 hpre
      have hal : ([(l0_0.length : Int), a1] ++ ([l0_0, l0_1].take j).flatten.flatten).length ≤ 66 := by
        have := HPRE.out
        rw [List.length_append]; simp only [List.length_cons, List.length_nil]; omega
      have hnx : [(l0_0.length : Int), a1] ++ ([l0_0, l0_1].take (j + 1)).flatten.flatten = ([(l0_0.length : Int), a1] ++ ([l0_0, l0_1].take j).flatten.flatten) ++ m.flatten := by
        rw [HTK.out]; simp
      have HNX := Aside0.mk hnx
      clear hnx HTK HPRE
      obtain ⟨acc0, HAC⟩ : ∃ a, Aside0 ([(l0_0.length : Int), a1] ++ ([l0_0, l0_1].take j).flatten.flatten = a) := ⟨_, ⟨rfl⟩⟩
      rw [HAC.out] at HI hal HNX
      have HAL := Aside0.mk hal
      clear hal
      go_wp2
      go_loopg [37] m.length (fun gg v37 wr => ∃ i : Int, 0 ≤ i ∧ i ≤ (m.length : Int) ∧ Aside0 ((m.length : Int) - i ≤ gg) ∧ v37 = .int .i64 i ∧ Aside0 (Inv w b L #[.slice A0_0 l0_0.length c0_0, .slice A0_1 l0_1.length c0_1] (acc0 ++ (m.take i.toNat).flatten) wr))
      case atStart => exact ⟨0, by omega, by omega, ⟨by omega⟩, rfl, by simpa using HI⟩
      case round =>
        clear HI hcell
        obtain ⟨i, hi0, hi1, HG1, rfl, HI⟩ := hrel
        obtain ⟨gk1, HGK1⟩ : ∃ g, Aside0 (g = gk) := ⟨_, ⟨rfl⟩⟩
        by_cases hlt1 : i < (m.length : Int)
        · obtain ⟨ad, A1, c1, e, hxw, hl1, hin⟩ := Right.at_L1 HMC.out i hi0 hlt1
          cases e
          have hx := (HI.out.below.cell (cell_lt hxw)).trans hxw
          have hrow : (m.getD i.toNat []).length ≤ 8 := by
            have h' : i.toNat < m.length := by omega
            rw [List.getD_eq_getElem?_getD, List.getElem?_eq_getElem h', Option.getD_some]; exact HR8.out _ (List.getElem_mem h')
          have htk : acc0 ++ (m.take (i + 1).toNat).flatten = acc0 ++ (m.take i.toNat).flatten ++ m.getD i.toNat [] := by
            rw [take_snoc m [] i hi0 hlt1]; simp
          have hal : (acc0 ++ (m.take i.toNat).flatten).length ≤ 130 := by
            have h1 := HAL.out
            have h2 := take_le m i.toNat
            have h3 := flatten_le HR8.out
            have h4 := HM8.out
            rw [List.length_append]; omega
          obtain ⟨row, HROW⟩ : ∃ r, Aside0 (m.getD i.toNat [] = r) := ⟨_, ⟨rfl⟩⟩
          rw [HROW.out] at hx hl1 hin hrow htk
          obtain ⟨acc1, HAC1⟩ : ∃ a, Aside0 (acc0 ++ (m.take i.toNat).flatten = a) := ⟨_, ⟨rfl⟩⟩
          rw [HAC1.out] at HI htk hal
          have HTK := Aside0.mk htk
          have HRC := Aside0.mk hin
          have HL1 := Aside0.mk hl1
          have HAL1 := Aside0.mk hal
          have HRW := Aside0.mk hrow
          clear hxw hl1 hin htk hal hrow
          go_wp2
          go_loopg [43] row.length (fun gg v43 wr => ∃ t : Int, 0 ≤ t ∧ t ≤ (row.length : Int) ∧ Aside0 ((row.length : Int) - t ≤ gg) ∧ v43 = .int .i64 t ∧ Aside0 (Inv w b L #[.slice A0_0 l0_0.length c0_0, .slice A0_1 l0_1.length c0_1] (acc1 ++ row.take t.toNat) wr))
          case atStart => exact ⟨0, by omega, by omega, ⟨by omega⟩, rfl, by simpa using HI⟩
          case round =>
            clear HI hx
            obtain ⟨t, ht0, ht1, HG2, rfl, HI⟩ := hrel
            by_cases hlt2 : t < (row.length : Int)
            · obtain ⟨ad2, e, hxw⟩ := Kd.at_int HRC.out t ht0 hlt2
              cases e
              have hx := (HI.out.below.cell (cell_lt hxw)).trans hxw
              have htk : acc1 ++ row.take (t + 1).toNat = acc1 ++ row.take t.toNat ++ [rd row t] := by
                rw [take_snoc row 0 t ht0 hlt2]; simp [rd]
              have hal : (acc1 ++ row.take t.toNat).length ≤ 138 := by
                have h1 := HAL1.out
                have h2 := HRW.out
                rw [List.length_append, List.length_take]; omega
              obtain ⟨n, HN⟩ : ∃ n, Aside0 (rd row t = n) := ⟨_, ⟨rfl⟩⟩
              obtain ⟨acc2, HAC2⟩ : ∃ a, Aside0 (acc1 ++ row.take t.toNat = a) := ⟨_, ⟨rfl⟩⟩
              rw [HN.out] at hx htk
              rw [HAC2.out] at HI htk hal
              have HTK2 := Aside0.mk htk
              have HAL2 := Aside0.mk hal
              clear hxw htk hal
              go_wp2_with fail
              refine (four_call _ _).mono ?_
              rintro e wa ⟨rfl, hba⟩
              replace HI := Aside0.mk (HI.out.step hba)
              clear hba hx
              have hsz : (fourS n).size = 4 := fourS_size n
              go_wp2_with fail
              refine (Build.WriteString b b _ (fourS n) wa HI.out.bld (by rw [acc_len, hsz]; have := HAL2.out; omega) (Nat.le_of_lt HI.out.lt)).mono ?_
              rintro e wb ⟨rfl, hbd, hbb, hkk⟩
              have HI2 := Aside0.mk (HI.out.wrote n HWb.out HLb.out hbd hbb hkk)
              clear hbd hbb hkk HI
              go_wp2
              go_roundg (gk - 1)
              case measure => have := HG2.out; omega
              case rel => exact ⟨t + 1, by omega, by omega, ⟨by have := HG2.out; omega⟩, by have := HRW.out; rw [show wrap64 (t + 1) = t + 1 by unfold wrap64; omega], ⟨by rw [HTK2.out]; exact HI2.out⟩⟩
            · obtain rfl : t = (row.length : Int) := by omega
              have hall : acc1 ++ row.take ((row.length : Int)).toNat = acc0 ++ (m.take (i + 1).toNat).flatten := by
                rw [HTK.out, show ((row.length : Int)).toNat = row.length by omega, List.take_length]
              rw [hall] at HI
              clear hall
              go_wp2
              go_roundg (gk1 - 1)
              case measure => have := HG1.out; have := HGK1.out; omega
              case rel => exact ⟨i + 1, by omega, by omega, ⟨by have := HG1.out; have := HGK1.out; omega⟩, by have := HM8.out; rw [show wrap64 (i + 1) = i + 1 by unfold wrap64; omega], HI⟩
        · obtain rfl : i = (m.length : Int) := by omega
          have hall : acc0 ++ (m.take ((m.length : Int)).toNat).flatten = [(l0_0.length : Int), a1] ++ ([l0_0, l0_1].take (j + 1)).flatten.flatten := by
            rw [HNX.out, show ((m.length : Int)).toNat = m.length by omega, List.take_length]
          rw [hall] at HI
          clear hall
          go_wp2
          go_roundg (gk2 - 1)
          case measure => have := HG.out; have := HGK2.out; omega
          case rel => exact ⟨j + 1, by omega, ⟨by have := HG.out; have := HGK2.out; omega⟩, by go_num, HI⟩
    · obtain rfl : j = 2 := by omega
      have hall : [(l0_0.length : Int), a1] ++ ([l0_0, l0_1].take 2).flatten.flatten = listX l0_0 l0_1 a1 := by simp [listX]
      rw [hall] at HI
      clear hall
      go_wp2_with fail
      have hne : flat (listX l0_0 l0_1 a1) ≠ [] := by unfold listX; rw [flat_cons]; unfold fourB; simp
      refine (Build.String b b _ _ HI.out.bld hne).mono ?_
      rintro e wa ⟨rfl, hbd, hbb⟩
      replace HBE := Aside0.mk (HI.out.below.trans (hbb.mono HWb.out))
      have HLT := Aside0.mk (Nat.lt_of_lt_of_le HI.out.lt hbb.size)
      clear HI hbb
      go_wp2_with fail
      refine (Build.String b b _ wa hbd hne).mono ?_
      rintro e wb ⟨rfl, hbd', hbb⟩
      replace HBE := Aside0.mk (HBE.out.trans (hbb.mono HWb.out))
      clear hbd hbd' hbb HLT
      have hcap : (flat (listX l0_0 l0_1 a1)).length ≤ 1000 := by
        have hF := HF.out
        have h0 := mat_facts hF.2.2.1
        have h1 := mat_facts hF.2.2.2
        have g0 : l0_0.flatten.length ≤ l0_0.length * 8 := flatten_le (fun r hr => by have := (h0.2 r hr).1; omega)
        have g1 : l0_1.flatten.length ≤ l0_1.length * 8 := flatten_le (fun r hr => by have := (h1.2 r hr).1; omega)
        unfold listX
        rw [flat_len]; simp only [List.length_cons, List.length_append]; omega
      go_wp2_with fail
      obtain ⟨F, HFL⟩ : ∃ F, Aside0 (flat (listX l0_0 l0_1 a1) = F) := ⟨_, ⟨rfl⟩⟩
      rw [HFL.out] at hcap ⊢
      have hFs : (⟨F.toArray⟩ : ByteArray).size = F.length := by simp [ByteArray.size]
      refine (Given.crc_Sum.calls (⟨F.toArray⟩ : ByteArray) (crcI F) wb (by unfold Given.crc_Sum.f; rw [if_pos (by rw [hFs]; omega)])).mono ?_
      rintro e wc ⟨rfl, hbb⟩
      replace HBE := Aside0.mk (HBE.out.trans (hbb.mono HBE.out.size))
      clear hbb
      obtain ⟨C, HCC⟩ : ∃ C, Aside0 (crcI F = C) := ⟨_, ⟨rfl⟩⟩
      rw [HCC.out]
      go_wp2_with fail
      refine (four_call _ _).mono ?_
      rintro e wd ⟨rfl, hbb⟩
      replace HBE := Aside0.mk (HBE.out.trans (hbb.mono HBE.out.size))
      clear hbb
      have hss : (fourS C).size = 4 := rfl
      generalize hS : fourS C = S at hss ⊢
      have HS := Aside0.mk hS
      clear hS
      have hFl : F.length ≤ 1000 := hcap
      go_wp2
      go_ret2
      refine ⟨?_, HBE.out⟩
      have hout : outX l0_0 l0_1 a1 = F ++ fourB C := by unfold outX; rw [HFL.out, HCC.out]
      rw [hout]
      have hfin : (⟨(F ++ fourB C).toArray⟩ : ByteArray) = ⟨F.toArray⟩ ++ S := by
        rw [← HS.out]
        apply ByteArray.ext
        rw [ByteArray.data_append]
        apply Array.toList_inj.mp
        rw [Array.toList_append, fourS_bytes]
      rw [hfin]
      rfl
noncomputable def chunk_Export.f (l0_0 l0_1 : List (List Int)) (a1 : Int) : Option (ByteArray × Int) := (expert_Right.f l0_0 l0_1 a1).bind fun t => if t = true then some (⟨(outX l0_0 l0_1 a1).toArray⟩, 0) else some (⟨#[]⟩, 1)
theorem chunk_Export.calls (A0_0 : Option Addr) (c0_0 : Nat) (l0_0 : List (List Int)) (A0_1 : Option Addr) (c0_1 : Nat) (l0_1 : List (List Int)) (a1 : Int) (r1 : ByteArray) (r2 : Int) (w : World) (hr0_0 : Kd.C (Kd.slice 3 (Kd.int .i64)) w A0_0 l0_0.length l0_0) (hc0_0 : l0_0.length ≤ c0_0) (hr0_1 : Kd.C (Kd.slice 3 (Kd.int .i64)) w A0_1 l0_1.length l0_1) (hc0_1 : l0_1.length ≤ c0_1) (h : chunk_Export.f l0_0 l0_1 a1 = some (r1, r2)) :
    Calls Try.prog 11 #[.agg #[.slice A0_0 l0_0.length c0_0, .slice A0_1 l0_1.length c0_1], .int .i64 a1] w fun e w' => e = .returned (.tuple #[.string r1, .int .i64 r2]) ∧ Below w.heap.size w w' := by
  unfold chunk_Export.f at h
  obtain ⟨t, ht, h⟩ := Option.bind_eq_some_iff.mp h
  cases t with
  | true =>
    rw [if_pos rfl] at h
    obtain ⟨rfl, rfl⟩ := Prod.mk.inj (Option.some.inj h)
    exact export_yes A0_0 c0_0 l0_0 A0_1 c0_1 l0_1 a1 w hr0_0 hc0_0 hr0_1 hc0_1 ht
  | false =>
    rw [if_neg (by decide)] at h
    obtain ⟨rfl, rfl⟩ := Prod.mk.inj (Option.some.inj h)
    exact export_no A0_0 c0_0 l0_0 A0_1 c0_1 l0_1 a1 w hr0_0 hc0_0 hr0_1 hc0_1 ht
end Go.Proofs.Ytdcojbamfchgiaa.Export
