/- Import and Export as functions of bytes, and that each undoes the other. No walk. -/
import Derived.Test.YtdcojbamfchgiaaChunkNum
import Derived.Test.YtdcojbamfchgiaaExport
namespace Go.Proofs.Ytdcojbamfchgiaa.ChunkImp
open Go Go.RowKit Go.Proofs.Ytdcojbamfchgiaa.Given Go.Proofs.Ytdcojbamfchgiaa.Right Go.Proofs.Ytdcojbamfchgiaa.CrcThy Go.Proofs.Ytdcojbamfchgiaa.WireThy Go.Proofs.Ytdcojbamfchgiaa.Export Go.Proofs.Ytdcojbamfchgiaa.ChunkNum
def rightX (x y : List (List Int)) (dim : Int) : Bool := decide (1 ≤ dim) && (decide (dim ≤ 8) && (decide (1 ≤ (x.length : Int)) && (decide ((x.length : Int) ≤ 8) && (matRight x x.length dim && matRight y dim x.length))))
theorem right_is (x y : List (List Int)) (dim : Int) : RExpert.expert_Right.f x y dim = some (rightX x y dim) := by
  unfold RExpert.expert_Right.f mat_Right.f rightX
  simp only [Option.bind_some]
  by_cases h1 : dim ≥ 1
  · by_cases h2 : dim ≤ 8
    · by_cases h3 : (x.length : Int) ≥ 1
      · by_cases h4 : (x.length : Int) ≤ 8
        · rw [if_pos h1, if_pos h2, if_pos h3, if_pos h4, decide_eq_true (show 1 ≤ dim from h1), decide_eq_true h2, decide_eq_true (show 1 ≤ (x.length : Int) from h3), decide_eq_true h4]
          cases matRight x x.length dim <;> simp
        · rw [if_pos h1, if_pos h2, if_pos h3, if_neg h4, decide_eq_false h4]; simp
      · rw [if_pos h1, if_pos h2, if_neg h3, decide_eq_false (show ¬ 1 ≤ (x.length : Int) from h3)]; simp
    · rw [if_pos h1, if_neg h2, decide_eq_false h2]; simp
  · rw [if_neg h1, decide_eq_false (show ¬ 1 ≤ dim from h1)]; simp
structure RightP (x y : List (List Int)) (dim : Int) (h d : Nat) : Prop where
  dim_ : dim = (d : Int)
  d1 : 1 ≤ d
  d8 : d ≤ 8
  len : x.length = h
  h1 : 1 ≤ h
  h8 : h ≤ 8
  leny : y.length = d
  rx : ∀ l ∈ x, l.length = d ∧ ∀ n ∈ l, -2147483647 ≤ n ∧ n ≤ 2147483647
  ry : ∀ l ∈ y, l.length = h ∧ ∀ n ∈ l, -2147483647 ≤ n ∧ n ≤ 2147483647
theorem right_p {x y : List (List Int)} {dim : Int} (h : rightX x y dim = true) : RightP x y dim x.length dim.toNat := by
  have hF := right_facts (x := x) (y := y) (dim := dim) (by rw [right_is, h])
  have h0 := mat_facts hF.2.2.1
  have h1 := mat_facts hF.2.2.2
  exact ⟨by omega, by omega, by omega, rfl, hF.2.1.1, hF.2.1.2, by omega, fun l hl => ⟨by have := (h0.2 l hl).1; omega, (h0.2 l hl).2⟩, fun l hl => ⟨by have := (h1.2 l hl).1; omega, (h1.2 l hl).2⟩⟩
theorem flatten_len {c : Nat} : ∀ {x : List (List Int)}, (∀ l ∈ x, l.length = c) → x.flatten.length = x.length * c
  | [], _ => by simp
  | l :: x, h => by
    rw [List.flatten_cons, List.length_append, flatten_len (fun l hl => h l (List.mem_cons_of_mem _ hl)), h l List.mem_cons_self, List.length_cons, Nat.succ_mul]; omega
theorem listX_len {x y : List (List Int)} {dim : Int} {h d : Nat} (p : RightP x y dim h d) : (listX x y dim).length = 2 + 2 * (h * d) := by
  unfold listX
  rw [List.length_cons, List.length_cons, List.length_append, flatten_len (fun l hl => (p.rx l hl).1), flatten_len (fun l hl => (p.ry l hl).1), p.len, p.leny, Nat.mul_comm d h]; omega
theorem listX_range {x y : List (List Int)} {dim : Int} {h d : Nat} (p : RightP x y dim h d) : ∀ n ∈ listX x y dim, -2147483648 ≤ n ∧ n ≤ 2147483647 := by
  intro n hn
  unfold listX at hn
  rw [List.mem_cons, List.mem_cons, List.mem_append, List.mem_flatten, List.mem_flatten] at hn
  have h8 := p.h8; have d8 := p.d8; have hl := p.len; have hd := p.dim_
  rcases hn with rfl | rfl | ⟨l, hl, hn⟩ | ⟨l, hl, hn⟩
  · omega
  · omega
  · have := (p.rx l hl).2 n hn; omega
  · have := (p.ry l hl).2 n hn; omega
/-- A number of numbers written, and of what lies behind them. -/
theorem numAt_flat (N : List Int) (r : List UInt8) (i : Nat) (hi : i < N.length) (hr : ∀ n ∈ N, -2147483648 ≤ n ∧ n ≤ 2147483647) : numAt (flat N ++ r) i = N.getD i 0 := by
  unfold numAt
  rw [nums_flat_append, List.getD_eq_getElem?_getD, List.getElem?_append_left (by rw [List.length_map]; exact hi), List.getElem?_map, List.getElem?_eq_getElem hi, List.getD_eq_getElem?_getD, List.getElem?_eq_getElem hi]
  simp only [Option.map_some, Option.getD_some]
  have := hr _ (List.getElem_mem hi)
  exact sg_of this.1 this.2
theorem range_split (l : List UInt8) (a r c : Nat) : (rowsOf l a r c).flatten = (List.range (r * c)).map (fun i => numAt l (a + i)) := by
  induction r with
  | zero => simp [rowsOf]
  | succ r ih =>
    rw [rowsOf_succ, List.flatten_append, ih, Nat.succ_mul, List.range_add, List.map_append]
    congr 1
    unfold rowOf
    simp [List.map_map, Function.comp_def, Nat.add_assoc]
theorem rows_get (l : List UInt8) (a : Nat) : ∀ (x : List (List Int)) (c : Nat), (∀ r ∈ x, r.length = c) → (∀ i, i < x.flatten.length → numAt l (a + i) = x.flatten.getD i 0) → rowsOf l a x.length c = x := by
  intro x c hx hi
  apply List.ext_getElem (rowsOf_len _ _ _ _)
  intro r h1 h2
  simp only [rowsOf, rowOf, List.getElem_map, List.getElem_range]
  have hr := hx _ (List.getElem_mem h2)
  apply List.ext_getElem (by simp [hr])
  intro j j1 j2
  rw [List.getElem_map, List.getElem_range]
  have hfl : x.flatten.length = x.length * c := flatten_len hx
  have hj : j < c := by omega
  have hlt : r * c + j < x.length * c := by
    have : (r + 1) * c ≤ x.length * c := Nat.mul_le_mul_right _ h2
    rw [Nat.succ_mul] at this; omega
  rw [Nat.add_assoc, hi (r * c + j) (by rw [hfl]; exact hlt)]
  have key : ∀ (x : List (List Int)) (r : Nat) (h2 : r < x.length), (∀ r ∈ x, r.length = c) → x.flatten.getD (r * c + j) 0 = (x[r]).getD j 0 := by
    intro x
    induction x with
    | nil => intro r h2; simp at h2
    | cons q x ih =>
      intro r h2 hx
      have hq := hx q List.mem_cons_self
      cases r with
      | zero =>
        simp only [Nat.zero_mul, Nat.zero_add, List.flatten_cons, List.getElem_cons_zero]
        rw [List.getD_eq_getElem?_getD, List.getElem?_append_left (by omega), List.getD_eq_getElem?_getD]
      | succ r =>
        simp only [List.flatten_cons, List.getElem_cons_succ]
        rw [List.getD_eq_getElem?_getD, List.getElem?_append_right (by rw [Nat.succ_mul]; omega), ← ih r (by simpa using h2) (fun l hl => hx l (List.mem_cons_of_mem _ hl)), List.getD_eq_getElem?_getD, hq, show (r + 1) * c + j - c = r * c + j by rw [Nat.succ_mul]; omega]
  rw [key x r h2 hx, List.getD_eq_getElem?_getD, List.getElem?_eq_getElem j2, Option.getD_some]
/-- Import, as a function of bytes. -/
noncomputable def impB (l : List UInt8) : List (List Int) × List (List Int) × Int × Int :=
  if l.length < 12 ∨ l.length % 4 ≠ 0 then ([], [], 0, 2)
  else if l.drop (l.length - 4) ≠ fourB (crcI (l.take (l.length - 4))) then ([], [], 0, 9)
  else if 1 ≤ numAt l 0 ∧ numAt l 0 ≤ 8 ∧ 1 ≤ numAt l 1 ∧ numAt l 1 ≤ 8 ∧ (l.length : Int) = 4 * (3 + 2 * numAt l 0 * numAt l 1) then
    (if rightX (rowsOf l 2 (numAt l 0).toNat (numAt l 1).toNat) (rowsOf l (2 + (numAt l 0).toNat * (numAt l 1).toNat) (numAt l 1).toNat (numAt l 0).toNat) (numAt l 1) = true
      then (rowsOf l 2 (numAt l 0).toNat (numAt l 1).toNat, rowsOf l (2 + (numAt l 0).toNat * (numAt l 1).toNat) (numAt l 1).toNat (numAt l 0).toNat, numAt l 1, 0) else ([], [], 0, 2))
  else ([], [], 0, 2)
theorem outX_len {x y : List (List Int)} {dim : Int} (h : rightX x y dim = true) : (outX x y dim).length = 12 + 8 * (x.length * dim.toNat) := by
  have p := right_p h
  unfold outX
  rw [List.length_append, flat_len, fourB_len, listX_len p]; omega
theorem outX_parts (x y : List (List Int)) (dim : Int) : (outX x y dim).drop ((outX x y dim).length - 4) = fourB (crcI ((outX x y dim).take ((outX x y dim).length - 4))) ∧ (outX x y dim).take ((outX x y dim).length - 4) = flat (listX x y dim) := by
  have hl : (outX x y dim).length - 4 = (flat (listX x y dim)).length := by unfold outX; rw [List.length_append, fourB_len]; omega
  have ht : (outX x y dim).take ((outX x y dim).length - 4) = flat (listX x y dim) := by rw [hl]; unfold outX; rw [List.take_left]
  refine ⟨?_, ht⟩
  rw [ht, hl]; unfold outX; rw [List.drop_left]
/-- What was exported is imported. -/
theorem imp_out {x y : List (List Int)} {dim : Int} (h : rightX x y dim = true) : impB (outX x y dim) = (x, y, dim, 0) := by
  have p := right_p h
  have hlen := outX_len h
  have hL := listX_len p
  have hn : ∀ i, i < 2 + 2 * (x.length * dim.toNat) → numAt (outX x y dim) i = (listX x y dim).getD i 0 := fun i hi => numAt_flat _ _ i (by rw [hL]; exact hi) (listX_range p)
  have h0 : numAt (outX x y dim) 0 = x.length := by rw [hn 0 (by omega)]; rfl
  have h1 : numAt (outX x y dim) 1 = dim := by rw [hn 1 (by omega)]; rfl
  have hd := p.dim_; have h8 := p.h8; have d8 := p.d8; have hh1 := p.h1; have hd1 := p.d1
  have hx : rowsOf (outX x y dim) 2 x.length dim.toNat = x := by
    refine rows_get _ 2 x dim.toNat (fun l hl => (p.rx l hl).1) (fun i hi => ?_)
    rw [flatten_len (fun l hl => (p.rx l hl).1)] at hi
    rw [hn (2 + i) (by omega)]
    unfold listX
    rw [show 2 + i = i + 1 + 1 by omega, List.getD_cons_succ, List.getD_cons_succ, List.getD_eq_getElem?_getD, List.getElem?_append_left (by rw [flatten_len (fun l hl => (p.rx l hl).1)]; exact hi), List.getD_eq_getElem?_getD]
  have hy : rowsOf (outX x y dim) (2 + x.length * dim.toNat) dim.toNat x.length = y := by
    have := rows_get (outX x y dim) (2 + x.length * dim.toNat) y x.length (fun l hl => (p.ry l hl).1) (fun i hi => ?_)
    · rw [p.leny] at this; exact this
    · rw [flatten_len (fun l hl => (p.ry l hl).1), p.leny] at hi
      rw [Nat.mul_comm] at hi
      rw [hn (2 + x.length * dim.toNat + i) (by omega)]
      unfold listX
      rw [show 2 + x.length * dim.toNat + i = (x.length * dim.toNat + i) + 1 + 1 by omega, List.getD_cons_succ, List.getD_cons_succ, List.getD_eq_getElem?_getD, List.getElem?_append_right (by rw [flatten_len (fun l hl => (p.rx l hl).1)]; omega), flatten_len (fun l hl => (p.rx l hl).1), List.getD_eq_getElem?_getD, show x.length * dim.toNat + i - x.length * dim.toNat = i by omega]
  have hp := outX_parts x y dim
  have hm : (2 * (x.length : Int) * dim) = ((2 * (x.length * dim.toNat) : Nat) : Int) := by
    rw [hd, Int.toNat_natCast, Int.natCast_mul, Int.natCast_mul, Int.mul_assoc]; rfl
  unfold impB
  rw [if_neg (by rw [hlen]; omega), if_neg (by rw [hp.1]; exact fun h => h rfl), h0, h1, if_pos ⟨by omega, by omega, by omega, by omega, by rw [hlen, hm]; omega⟩, Int.toNat_natCast, hx, hy, if_pos h]
theorem nums_take (l : List UInt8) (n : Nat) (h : 4 * n ≤ l.length) : (nums (l.take (4 * n))).map sg = (List.range n).map (numAt l) := by
  have hlt : (l.take (4 * n)).length = 4 * n := by rw [List.length_take]; omega
  apply List.ext_getElem
  · rw [List.length_map, nums_len, hlt, List.length_map, List.length_range]; omega
  · intro i h1 h2
    rw [List.getElem_map, List.getElem_map, List.getElem_range]
    rw [List.length_map, List.length_range] at h2
    unfold numAt
    have e1 : (nums (l.take (4 * n)))[i]'(by rw [List.length_map] at h1; exact h1) = (nums (l.take (4 * n))).getD i 0 := by rw [List.getD_eq_getElem?_getD, List.getElem?_eq_getElem (by rw [List.length_map] at h1; exact h1), Option.getD_some]
    rw [e1, nums_get i _ (by rw [hlt]; omega), nums_get i _ (by omega)]
    have e : ∀ j, j < 4 * n → (l.take (4 * n)).getD j 0 = l.getD j 0 := fun j hj => by rw [List.getD_eq_getElem?_getD, List.getElem?_take_of_lt hj, ← List.getD_eq_getElem?_getD]
    rw [e _ (by omega), e _ (by omega), e _ (by omega), e _ (by omega)]
theorem flat_sg (B : List UInt8) (h : B.length % 4 = 0) : flat ((nums B).map sg) = B := by
  rw [← flat_mod, List.map_map]
  have : (nums B).map ((· % 4294967296) ∘ sg) = nums B := by
    conv => rhs; rw [← List.map_id (nums B)]
    apply List.map_congr_left
    intro x hx
    have := nums_range B x hx
    exact sg_mod this.1 this.2
  rw [this, flat_nums B h]
/-- What is imported is exported as it was. -/
theorem out_imp {l : List UInt8} {x y : List (List Int)} {d : Int} (h : impB l = (x, y, d, 0)) : rightX x y d = true ∧ outX x y d = l := by
  unfold impB at h
  split at h
  · simp at h
  · rename_i hlen
    split at h
    · simp at h
    · rename_i hcrc
      split at h
      · rename_i hb
        split at h
        · rename_i hr
          obtain ⟨g1, g2, g3, g4, g5⟩ := hb
          obtain ⟨hh, eh⟩ : ∃ n : Nat, numAt l 0 = (n : Int) := ⟨(numAt l 0).toNat, by omega⟩
          obtain ⟨dd, ed⟩ : ∃ n : Nat, numAt l 1 = (n : Int) := ⟨(numAt l 1).toNat, by omega⟩
          rw [eh, ed] at g5 hr h
          simp only [Int.toNat_natCast] at hr h
          simp only [Prod.mk.injEq] at h
          obtain ⟨rfl, rfl, rfl, _⟩ := h
          refine ⟨hr, ?_⟩
          have hm : (2 * (hh : Int) * (dd : Int)) = ((2 * (hh * dd) : Nat) : Int) := by
            rw [Int.natCast_mul, Int.natCast_mul, Int.mul_assoc]; rfl
          rw [hm] at g5
          have hL : l.length = 4 * (3 + 2 * (hh * dd)) := by omega
          have hlist : listX (rowsOf l 2 hh dd) (rowsOf l (2 + hh * dd) dd hh) (dd : Int) = (List.range (2 + 2 * (hh * dd))).map (numAt l) := by
            unfold listX
            rw [rowsOf_len, range_split, range_split, show 2 + 2 * (hh * dd) = 2 + hh * dd + dd * hh by rw [Nat.mul_comm dd hh]; omega, List.range_add, List.map_append, List.range_add, List.map_append, List.map_map, List.map_map]
            rw [show List.range 2 = [0, 1] from rfl, List.map_cons, List.map_cons, List.map_nil, eh, ed]
            rfl
          have hflat : flat (listX (rowsOf l 2 hh dd) (rowsOf l (2 + hh * dd) dd hh) (dd : Int)) = l.take (l.length - 4) := by
            rw [hlist, ← nums_take l _ (by omega), show l.length - 4 = 4 * (2 + 2 * (hh * dd)) by omega]
            exact flat_sg _ (by rw [List.length_take]; omega)
          unfold outX
          rw [hflat, ← Decidable.not_not.mp hcrc, List.take_append_drop]
        · simp at h
      · simp at h
theorem imp_err {l : List UInt8} {x y : List (List Int)} {d e : Int} (h : impB l = (x, y, d, e)) (he : e ≠ 0) : x = [] ∧ y = [] ∧ d = 0 := by
  unfold impB at h
  split at h
  · simp at h; exact ⟨h.1, h.2.1, h.2.2.1.symm⟩
  · split at h
    · simp at h; exact ⟨h.1, h.2.1, h.2.2.1.symm⟩
    · split at h
      · split at h
        · simp at h; exact absurd h.2.2.2.symm he
        · simp at h; exact ⟨h.1, h.2.1, h.2.2.1.symm⟩
      · simp at h; exact ⟨h.1, h.2.1, h.2.2.1.symm⟩
end Go.Proofs.Ytdcojbamfchgiaa.ChunkImp
