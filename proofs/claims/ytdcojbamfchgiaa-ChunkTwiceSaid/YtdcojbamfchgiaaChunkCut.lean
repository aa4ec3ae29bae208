/- What chunk.Cut answers, in plain words: pieces. -/
import Derived.Test.YtdcojbamfchgiaaQChunkx8
namespace Go.Proofs.Ytdcojbamfchgiaa.ChunkCut
open Go Go.RowKit Go.Proofs.Ytdcojbamfchgiaa.QChunk Go.Proofs.YtdcojbamfchgiaaW.PrintWords Go.Proofs.YtdcojbamfchgiaaW.PrintLast
def cutR : Nat → Nat → List UInt8 → List (List UInt8)
  | 0, _, _ => []
  | f + 1, n, l => if l = [] then [] else l.take n :: cutR f n (l.drop n)
/-- Pieces of n, but the last one. -/
def cutB (n : Nat) (l : List UInt8) : List (List UInt8) := cutR l.length n l
theorem cutR_nil (f n : Nat) : cutR f n [] = [] := by cases f <;> simp [cutR]
theorem cutR_fuel (n : Nat) (hn : 1 ≤ n) : ∀ (f g : Nat) (l : List UInt8), l.length ≤ f → l.length ≤ g → cutR f n l = cutR g n l := by
  intro f
  induction f with
  | zero =>
    intro g l hf hg
    obtain rfl := List.eq_nil_of_length_eq_zero (Nat.le_zero.mp hf)
    rw [cutR_nil, cutR_nil]
  | succ f ih =>
    intro g l hf hg
    cases g with
    | zero =>
      obtain rfl := List.eq_nil_of_length_eq_zero (Nat.le_zero.mp hg)
      rw [cutR_nil, cutR_nil]
    | succ g =>
      unfold cutR
      split
      · rfl
      · rename_i h
        have hp : 0 < l.length := List.length_pos_iff.mpr h
        rw [ih g (l.drop n) (by rw [List.length_drop]; omega) (by rw [List.length_drop]; omega)]
theorem cutB_nil (n : Nat) : cutB n [] = [] := rfl
theorem cutB_cons (n : Nat) (hn : 1 ≤ n) (l : List UInt8) (h : l ≠ []) : cutB n l = l.take n :: cutB n (l.drop n) := by
  have hp : 0 < l.length := List.length_pos_iff.mpr h
  unfold cutB
  obtain ⟨f, hf⟩ : ∃ f, l.length = f + 1 := ⟨l.length - 1, by omega⟩
  rw [hf]
  conv => lhs; unfold cutR
  rw [if_neg h, cutR_fuel n hn f (l.drop n).length (l.drop n) (by rw [List.length_drop]; omega) (Nat.le_refl _)]
theorem cut_ind (n : Nat) (hn : 1 ≤ n) {P : List UInt8 → Prop} (h0 : P []) (h1 : ∀ l, l ≠ [] → P (l.drop n) → P l) : ∀ l, P l := by
  have : ∀ (d : Nat) (l : List UInt8), l.length ≤ d → P l := by
    intro d
    induction d with
    | zero => intro l hl; obtain rfl := List.eq_nil_of_length_eq_zero (Nat.le_zero.mp hl); exact h0
    | succ d ih =>
      intro l hl
      by_cases h : l = []
      · subst h; exact h0
      · have hp : 0 < l.length := List.length_pos_iff.mpr h
        exact h1 l h (ih _ (by rw [List.length_drop]; omega))
  exact fun l => this l.length l (Nat.le_refl _)
theorem cutB_flat (n : Nat) (hn : 1 ≤ n) (l : List UInt8) : (cutB n l).flatten = l := by
  refine cut_ind n hn (P := fun l => (cutB n l).flatten = l) rfl (fun l h ih => ?_) l
  rw [cutB_cons n hn l h, List.flatten_cons, ih, List.take_append_drop]
theorem cutB_len (n : Nat) (hn : 1 ≤ n) (l : List UInt8) : (cutB n l).length = (l.length + n - 1) / n := by
  refine cut_ind n hn (P := fun l => (cutB n l).length = (l.length + n - 1) / n) ?_ (fun l h ih => ?_) l
  · rw [cutB_nil]; simp only [List.length_nil]; rw [Nat.div_eq_of_lt (by omega)]
  · have hp : 0 < l.length := List.length_pos_iff.mpr h
    rw [cutB_cons n hn l h, List.length_cons, ih, List.length_drop]
    rcases Nat.le_total n l.length with hle | hle
    · rw [show l.length + n - 1 = (l.length - n + n - 1) + n by omega, Nat.add_div_right _ (by omega)]
    · rw [show l.length - n + n - 1 = n - 1 by omega, Nat.div_eq_of_lt (by omega), show l.length + n - 1 = (l.length - 1) + n by omega, Nat.add_div_right _ (by omega), Nat.div_eq_of_lt (by omega)]
theorem cutB_piece (n : Nat) (hn : 1 ≤ n) (l : List UInt8) : ∀ (i : Nat) (p : List UInt8), (cutB n l)[i]? = some p → p.length ≤ n ∧ p ≠ [] ∧ (i + 1 < (cutB n l).length → p.length = n) := by
  refine cut_ind n hn (P := fun l => ∀ (i : Nat) (p : List UInt8), (cutB n l)[i]? = some p → p.length ≤ n ∧ p ≠ [] ∧ (i + 1 < (cutB n l).length → p.length = n)) ?_ (fun l h ih => ?_) l
  · intro i p hp; rw [cutB_nil] at hp; simp at hp
  · intro i p hp
    have hpos : 0 < l.length := List.length_pos_iff.mpr h
    rw [cutB_cons n hn l h] at hp ⊢
    cases i with
    | zero =>
      simp only [List.getElem?_cons_zero, Option.some.injEq] at hp
      subst hp
      refine ⟨by rw [List.length_take]; omega, fun e => ?_, fun hlt => ?_⟩
      · have := congrArg List.length e; rw [List.length_take, List.length_nil] at this; omega
      · rw [List.length_cons] at hlt
        have hd : l.drop n ≠ [] := fun e => by rw [e, cutB_nil] at hlt; simp at hlt
        have := List.length_pos_iff.mpr hd
        rw [List.length_drop] at this
        rw [List.length_take]; omega
    | succ i =>
      rw [List.getElem?_cons_succ] at hp
      have := ih i p hp
      refine ⟨this.1, this.2.1, fun hlt => this.2.2 ?_⟩
      rw [List.length_cons] at hlt; omega
/-- A size that goes in another one: cut twice is cut once. -/
theorem cut_part (a : Nat) (ha : 1 ≤ a) (m : Nat) : ∀ l : List UInt8, cutB a l = cutB a (l.take (a * m)) ++ cutB a (l.drop (a * m)) := by
  induction m with
  | zero => intro l; simp [cutB_nil]
  | succ m ih =>
    intro l
    by_cases h : l = []
    · subst h; simp [cutB_nil]
    · have hpos : 0 < l.length := List.length_pos_iff.mpr h
      have ht : l.take (a * (m + 1)) ≠ [] := fun e => by
        have := congrArg List.length e
        rw [List.length_take, List.length_nil, Nat.mul_succ] at this; omega
      have e1 : (l.take (a * (m + 1))).take a = l.take a := by rw [List.take_take, Nat.min_eq_left (by rw [Nat.mul_succ]; omega)]
      have e2 : (l.take (a * (m + 1))).drop a = (l.drop a).take (a * m) := by rw [List.drop_take, show a * (m + 1) - a = a * m by rw [Nat.mul_succ]; omega]
      have e3 : (l.drop a).drop (a * m) = l.drop (a * (m + 1)) := by rw [List.drop_drop, show a + a * m = a * (m + 1) by rw [Nat.mul_succ]; omega]
      rw [cutB_cons a ha l h, cutB_cons a ha _ ht, e1, e2, ih (l.drop a), e3, List.cons_append]
theorem cut_twice (a m : Nat) (ha : 1 ≤ a) (hm : 1 ≤ m) (l : List UInt8) : (cutB (a * m) l).flatMap (cutB a) = cutB a l := by
  have hb : 1 ≤ a * m := Nat.mul_pos ha hm
  refine cut_ind (a * m) hb (P := fun l => (cutB (a * m) l).flatMap (cutB a) = cutB a l) rfl (fun l h ih => ?_) l
  rw [cutB_cons (a * m) hb l h, List.flatMap_cons, ih, ← cut_part a ha m l]
def bl (s : ByteArray) : List UInt8 := s.data.toList
theorem bl_extract (s : ByteArray) (i j : Nat) : bl (s.extract i j) = ((bl s).take j).drop i := by
  unfold bl
  rw [ByteArray.data_extract, Array.toList_extract]
  rw [List.extract_eq_take_drop, List.drop_take]
theorem cut_l0 (n : Nat) (hn : 1 ≤ n) (d : Nat) : ∀ (k : Nat) (s : ByteArray) (out : List ByteArray), s.size ≤ d → d < k → d ≤ 1000000 → out.length + d ≤ 1000000 →
    ∃ l : List ByteArray, chunk_Cut.l0 k s (n : Int) out = some (out ++ l, true) ∧ l.map bl = cutB n (bl s) := by
  induction d with
  | zero =>
    intro k s out hs hk hd ho
    obtain ⟨k, rfl⟩ : ∃ m, k = m + 1 := ⟨k - 1, by omega⟩
    have hb : bl s = [] := List.eq_nil_of_length_eq_zero (by unfold bl; rw [data_length]; omega)
    refine ⟨[], ?_, by rw [hb]; rfl⟩
    rw [chunk_Cut.l0, if_neg (by omega), List.append_nil]
  | succ d ih =>
    intro k s out hs hk hd ho
    obtain ⟨k, rfl⟩ : ∃ m, k = m + 1 := ⟨k - 1, by omega⟩
    by_cases hz : s.size = 0
    · have hb : bl s = [] := List.eq_nil_of_length_eq_zero (by unfold bl; rw [data_length]; omega)
      refine ⟨[], ?_, by rw [hb]; rfl⟩
      rw [chunk_Cut.l0, if_neg (by omega), List.append_nil]
    · have hb : bl s ≠ [] := fun e => hz (by rw [← data_length]; unfold bl at e; rw [e]; rfl)
      obtain ⟨m, hm, hm1, hm2, hm3⟩ : ∃ m : Nat, mn (n : Int) (s.size : Int) = (m : Int) ∧ 1 ≤ m ∧ m ≤ s.size ∧ (m = n ∨ (m = s.size ∧ s.size ≤ n)) := by
        unfold mn
        split
        · exact ⟨s.size, rfl, by omega, by omega, .inr ⟨rfl, by omega⟩⟩
        · exact ⟨n, rfl, hn, by omega, .inl rfl⟩
      have hsz : (s.extract m s.size).size ≤ d := by rw [ByteArray.size_extract]; omega
      obtain ⟨l, hl, hlb⟩ := ih k (s.extract m s.size) (out ++ [s.extract 0 m]) hsz (by omega) (by omega) (by rw [List.length_append, List.length_singleton]; omega)
      refine ⟨s.extract 0 m :: l, ?_, ?_⟩
      · rw [chunk_Cut.l0, if_pos (by omega), hm, if_pos (by omega), if_pos (by omega), if_pos (by omega), Int.toNat_natCast, hl]
        simp
      · have hlen : (bl s).length = s.size := by unfold bl; exact data_length s
        rw [List.map_cons, hlb, cutB_cons n hn _ hb, bl_extract, bl_extract, List.drop_zero, ← hlen, List.take_length]
        rcases hm3 with rfl | ⟨rfl, hle⟩
        · rfl
        · rw [← hlen, List.take_of_length_le (l := bl s) (Nat.le_refl _), List.drop_of_length_le (Nat.le_refl _), List.take_of_length_le (l := bl s) (by omega), List.drop_of_length_le (l := bl s) (by omega)]
/-- Cut, at a right size. -/
theorem cut_is (s : ByteArray) (n k : Nat) (hn : 1 ≤ n) (h64 : n ≤ 64) (hs : s.size ≤ 10000) (hk : s.size + 3 ≤ k) : ∃ l : List ByteArray, chunk_Cut.f k s (n : Int) = some (l, true) ∧ l.map bl = cutB n (bl s) := by
  obtain ⟨k, rfl⟩ : ∃ m, k = m + 1 := ⟨k - 1, by omega⟩
  obtain ⟨l, hl, hb⟩ := cut_l0 n hn s.size k s [] (Nat.le_refl _) (by omega) (by omega) (by simp; omega)
  refine ⟨l, ?_, hb⟩
  unfold chunk_Cut.f
  rw [if_neg (by omega), show decide ((n : Int) > 64) = false by simp; omega, chunk_Cut.j0, if_neg (by decide)]
  exact hl
/-- .. at a wrong one. -/
theorem cut_no (s : ByteArray) (n : Int) (k : Nat) (hn : ¬ (1 ≤ n ∧ n ≤ 64)) (hk : 2 ≤ k) : chunk_Cut.f k s n = some ([], false) := by
  obtain ⟨k, rfl⟩ : ∃ m, k = m + 1 := ⟨k - 1, by omega⟩
  unfold chunk_Cut.f
  by_cases h : n < 1
  · rw [if_pos h, chunk_Cut.j0, if_pos rfl]
  · rw [if_neg h, show decide (n > 64) = true by simp; omega, chunk_Cut.j0, if_pos rfl]
end Go.Proofs.Ytdcojbamfchgiaa.ChunkCut
