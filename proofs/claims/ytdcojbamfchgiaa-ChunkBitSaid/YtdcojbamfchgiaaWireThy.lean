/- Numbers in four bytes, the lowest first, and back: plain laws. No program in sight. -/
import Derived.Test.YtdcojbamfchgiaaCrcThy
namespace Go.Proofs.Ytdcojbamfchgiaa.WireThy
open Go Go.RowKit Go.Proofs.YtdcojbamfchgiaaW.PrintWords Go.Proofs.Ytdcojbamfchgiaa.Given Go.Proofs.Ytdcojbamfchgiaa.CrcThy

/-- A number's four bytes. -/
def fourB (n : Int) : List UInt8 := [UInt8.ofNat (n % 256).toNat, UInt8.ofNat (n / 256 % 256).toNat, UInt8.ofNat (n / 65536 % 256).toNat, UInt8.ofNat (n / 16777216 % 256).toNat]
/-- The number of four bytes. -/
def num4 (a b c d : UInt8) : Int := a.toNat + 256 * b.toNat + 65536 * c.toNat + 16777216 * d.toNat
def flat (l : List Int) : List UInt8 := l.flatMap fourB
def nums : List UInt8 → List Int
  | a :: b :: c :: d :: r => num4 a b c d :: nums r
  | _ => []
/-- A number that may be below 0, by its four bytes' number. -/
def sg (x : Int) : Int := if x > 2147483647 then x - 4294967296 else x

theorem ofNat_toNat {n : Int} (h0 : 0 ≤ n) (h1 : n < 256) : ((UInt8.ofNat n.toNat).toNat : Int) = n := by
  rw [UInt8.toNat_ofNat', Nat.mod_eq_of_lt (by omega)]; omega
theorem num4_four (n : Int) : num4 (UInt8.ofNat (n % 256).toNat) (UInt8.ofNat (n / 256 % 256).toNat) (UInt8.ofNat (n / 65536 % 256).toNat) (UInt8.ofNat (n / 16777216 % 256).toNat) = n % 4294967296 := by
  unfold num4
  rw [ofNat_toNat (by omega) (by omega), ofNat_toNat (by omega) (by omega), ofNat_toNat (by omega) (by omega), ofNat_toNat (by omega) (by omega)]
  omega
theorem num4_lo (a b c d : UInt8) : 0 ≤ num4 a b c d := by unfold num4; omega
theorem num4_hi (a b c d : UInt8) : num4 a b c d < 4294967296 := by
  have := a.toNat_lt; have := b.toNat_lt; have := c.toNat_lt; have := d.toNat_lt
  unfold num4; omega
theorem fourB_num4 (a b c d : UInt8) : fourB (num4 a b c d) = [a, b, c, d] := by
  have ha := a.toNat_lt; have hb := b.toNat_lt; have hc := c.toNat_lt; have hd := d.toNat_lt
  unfold fourB num4
  have e1 : ((a.toNat : Int) + 256 * b.toNat + 65536 * c.toNat + 16777216 * d.toNat) % 256 = a.toNat := by omega
  have e2 : ((a.toNat : Int) + 256 * b.toNat + 65536 * c.toNat + 16777216 * d.toNat) / 256 % 256 = b.toNat := by omega
  have e3 : ((a.toNat : Int) + 256 * b.toNat + 65536 * c.toNat + 16777216 * d.toNat) / 65536 % 256 = c.toNat := by omega
  have e4 : ((a.toNat : Int) + 256 * b.toNat + 65536 * c.toNat + 16777216 * d.toNat) / 16777216 % 256 = d.toNat := by omega
  rw [e1, e2, e3, e4]
  simp
theorem fourB_len (n : Int) : (fourB n).length = 4 := rfl
theorem fourB_mod (n : Int) : fourB (n % 4294967296) = fourB n := by
  unfold fourB
  rw [show n % 4294967296 % 256 = n % 256 from by omega, show n % 4294967296 / 256 % 256 = n / 256 % 256 from by omega, show n % 4294967296 / 65536 % 256 = n / 65536 % 256 from by omega, show n % 4294967296 / 16777216 % 256 = n / 16777216 % 256 from by omega]
theorem fourB_inj {m n : Int} (h : fourB m = fourB n) : m % 4294967296 = n % 4294967296 := by
  rw [← num4_four m, ← num4_four n]
  unfold fourB at h
  injection h with h1 h
  injection h with h2 h
  injection h with h3 h
  injection h with h4 _
  rw [h1, h2, h3, h4]
theorem flat_cons (n : Int) (l : List Int) : flat (n :: l) = fourB n ++ flat l := by unfold flat; rw [List.flatMap_cons]
theorem flat_nil : flat [] = [] := rfl
theorem flat_append (l m : List Int) : flat (l ++ m) = flat l ++ flat m := by unfold flat; rw [List.flatMap_append]
theorem flat_len (l : List Int) : (flat l).length = 4 * l.length := by
  induction l with
  | nil => rfl
  | cons n l ih => rw [flat_cons, List.length_append, fourB_len, ih, List.length_cons]; omega
theorem nums_four (n : Int) (r : List UInt8) : nums (fourB n ++ r) = n % 4294967296 :: nums r := by
  rw [← num4_four n]; rfl
theorem nums_flat (l : List Int) : nums (flat l) = l.map (· % 4294967296) := by
  induction l with
  | nil => rfl
  | cons n l ih => rw [flat_cons, nums_four, ih, List.map_cons]
theorem nums_flat_append (l : List Int) (r : List UInt8) : nums (flat l ++ r) = l.map (· % 4294967296) ++ nums r := by
  induction l with
  | nil => rfl
  | cons n l ih => rw [flat_cons, List.append_assoc, nums_four, ih, List.map_cons, List.cons_append]
theorem nums_len : ∀ B : List UInt8, (nums B).length = B.length / 4
  | [] => rfl
  | [_] => by simp [nums]
  | [_, _] => by simp [nums]
  | [_, _, _] => by simp [nums]
  | a :: b :: c :: d :: r => by
    have ih := nums_len r
    simp only [nums, List.length_cons] at ih ⊢
    omega
theorem flat_nums : ∀ B : List UInt8, B.length % 4 = 0 → flat (nums B) = B
  | [], _ => rfl
  | [_], h => by simp at h
  | [_, _], h => by simp at h
  | [_, _, _], h => by simp at h
  | a :: b :: c :: d :: r, h => by
    have ih := flat_nums r (by simp only [List.length_cons] at h; omega)
    show flat (num4 a b c d :: nums r) = _
    rw [flat_cons, fourB_num4, ih]; rfl
theorem nums_range : ∀ (B : List UInt8) (x : Int), x ∈ nums B → 0 ≤ x ∧ x < 4294967296
  | [], x, h => by simp [nums] at h
  | [_], x, h => by simp [nums] at h
  | [_, _], x, h => by simp [nums] at h
  | [_, _, _], x, h => by simp [nums] at h
  | a :: b :: c :: d :: r, x, h => by
    simp only [nums, List.mem_cons] at h
    rcases h with h | h
    · rw [h]; exact ⟨num4_lo a b c d, num4_hi a b c d⟩
    · exact nums_range r x h
/-- The i-th number, by its four bytes. -/
theorem nums_get : ∀ (i : Nat) (B : List UInt8), 4 * i + 3 < B.length → (nums B).getD i 0 = num4 (B.getD (4 * i) 0) (B.getD (4 * i + 1) 0) (B.getD (4 * i + 2) 0) (B.getD (4 * i + 3) 0)
  | 0, a :: b :: c :: d :: r, _ => by simp [nums]
  | i + 1, a :: b :: c :: d :: r, h => by
    have ih := nums_get i r (by simp only [List.length_cons] at h; omega)
    simp only [nums]
    rw [show 4 * (i + 1) = 4 * i + 4 from by omega]
    simpa [List.getD_cons_succ] using ih
  | 0, [], h => by exfalso; simp at h <;> omega
  | 0, [_], h => by exfalso; simp at h <;> omega
  | 0, [_, _], h => by exfalso; simp at h <;> omega
  | 0, [_, _, _], h => by exfalso; simp at h <;> omega
  | _ + 1, [], h => by exfalso; simp at h <;> omega
  | _ + 1, [_], h => by exfalso; simp at h <;> omega
  | _ + 1, [_, _], h => by exfalso; simp at h <;> omega
  | _ + 1, [_, _, _], h => by exfalso; simp at h <;> omega
theorem flat_mod (l : List Int) : flat (l.map (· % 4294967296)) = flat l := by
  induction l with
  | nil => rfl
  | cons n l ih => rw [List.map_cons, flat_cons, flat_cons, fourB_mod, ih]
theorem flat_inj {l m : List Int} (h : flat l = flat m) : l.map (· % 4294967296) = m.map (· % 4294967296) := by
  rw [← nums_flat, ← nums_flat, h]
theorem sg_mod {x : Int} (h0 : 0 ≤ x) (h1 : x < 4294967296) : sg x % 4294967296 = x := by
  unfold sg; split <;> omega
theorem sg_of {n : Int} (h0 : -2147483648 ≤ n) (h1 : n ≤ 2147483647) : sg (n % 4294967296) = n := by
  unfold sg; split <;> omega
theorem sg_range {x : Int} (h0 : 0 ≤ x) (h1 : x < 4294967296) : -2147483648 ≤ sg x ∧ sg x ≤ 2147483647 := by
  unfold sg; split <;> omega
end Go.Proofs.Ytdcojbamfchgiaa.WireThy
