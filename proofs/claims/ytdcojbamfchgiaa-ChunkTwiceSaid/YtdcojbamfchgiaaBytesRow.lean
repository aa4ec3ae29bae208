/- What is told of '[]byte(s)', one of its cells written, and of 'string(b)' behind it; a byte turned. -/
import Derived.Test.YtdcojbamfchgiaaCrcThy
import Derived.Test.YtdcojbamfchgiaaWLast
import Derived.Test.YtdcojbamfchgiaaWMore
namespace Go.Proofs.Ytdcojbamfchgiaa.BytesRow
open Go Go.RowKit Go.Proofs.YtdcojbamfchgiaaW.PrintWords Go.Proofs.YtdcojbamfchgiaaW.PrintLast Go.Proofs.Ytdcojbamfchgiaa.Given Go.Proofs.Ytdcojbamfchgiaa.CrcThy

theorem bytes_frozen (w : World) (e : TypeId) (s : ByteArray) (j : Nat) (hj : j < s.size) : (Lib.bytesWorld w e s).frozen? ⟨w.heap.size, j, none⟩ = false := by
  have hc : (Lib.bytesCells w e s).size ≥ s.size := by
    unfold Lib.bytesCells; rw [Array.size_append, Array.size_map]; exact Nat.le_add_right _ _
  unfold World.frozen?
  rw [Lib.bytesWorld_at_new]
  simp
  omega
theorem wf_in {k : IntKind} {a m n : Int} (h : (Lit.int k a).wf = true) (hm : k.min = m) (hn : k.max = n) : m ≤ a ∧ a ≤ n := by
  have h' : (decide (k.min ≤ a) && decide (a ≤ k.max)) = true := h
  rw [Bool.and_eq_true, decide_eq_true_eq, decide_eq_true_eq, hm, hn] at h'
  exact h'
theorem loop_length (s : ByteArray) (d : Nat) : ∀ (i : Nat) (r : List UInt8), s.size - i = d → (ByteArray.toList.loop s i r).length = r.length + d := by
  induction d with
  | zero => intro i r h; unfold ByteArray.toList.loop; rw [if_neg (by omega)]; simp
  | succ d ih => intro i r h; unfold ByteArray.toList.loop; rw [if_pos (by omega), ih _ _ (by omega)]; simp; omega
theorem toList_length (s : ByteArray) : s.toList.length = s.size := by
  unfold ByteArray.toList
  rw [loop_length s s.size 0 [] (by omega)]; simp
theorem toList_nil {s : ByteArray} (h : s.size = 0) : s.toList = [] := List.eq_nil_of_length_eq_zero (by rw [toList_length]; exact h)
theorem toList_ne {s : ByteArray} (h : ¬ s.size = 0) : ¬ s.toList = [] := fun k => h (by rw [← toList_length, k]; rfl)
/-- What a walk reads in the row, one of its cells written. -/
theorem reads_set {w W : World} {g i : Nat} {s : ByteArray} {v : Int} (hs : s.size ≤ 140737488351232)
    (hall : ∀ k, k < s.size → w.cell? ⟨g, k, none⟩ = some (.int .u8 (s.data.toList.getD k 0).toNat)) (hw : W = w.setCell ⟨g, i, none⟩ (.int .u8 v)) :
    ReadsInt W .u8 (some ⟨g, 0, none⟩) s.size ((bytesOf s).set i v) := by
  refine ⟨by rw [List.length_set, bytesOf_length], by omega, fun _ => ⟨_, rfl, fun j hj => ?_⟩⟩
  have hj' : j < s.data.toList.length := by rw [data_length]; exact hj
  rw [add_plain, hw]
  by_cases e : j = i
  · subst e
    rw [World.cell?_setCell_same (h := hall j hj)]
    simp [List.getD_eq_getElem?_getD, bytesOf]
    rw [List.getElem?_set_self (by rw [List.length_map]; exact hj')]; rfl
  · have hne : (⟨g, i, none⟩ : Addr) ≠ ⟨g, j, none⟩ := fun k => e (congrArg Addr.off k).symm
    rw [World.cell?_setCell_other (h := hne), hall j hj]
    simp [List.getD_eq_getElem?_getD, bytesOf, Ne.symm e, List.getElem?_eq_getElem hj']
/-- The row's bytes, as a text. -/
theorem str_set (s : ByteArray) (i : Nat) (v : Int) : (strOfNums ((bytesOf s).set i v)).data.toList = s.data.toList.set i (UInt8.ofNat v.toNat) := by
  unfold strOfNums bytesOf
  have e : ((fun n : Int => UInt8.ofNat n.toNat) ∘ fun b : UInt8 => (b.toNat : Int)) = id := by funext b; simp
  simp [List.map_set, e]
theorem str_size (s : ByteArray) (i : Nat) (v : Int) : (strOfNums ((bytesOf s).set i v)).size = s.size := by
  rw [← data_length, str_set, List.length_set, data_length]
theorem set_split (l : List UInt8) (i : Nat) (y : UInt8) (h : i < l.length) : l = l.take i ++ l[i] :: l.drop (i + 1) ∧ l.set i y = l.take i ++ y :: l.drop (i + 1) := by
  refine ⟨?_, List.set_eq_take_append_cons_drop .. |>.trans (if_pos h)⟩
  rw [List.getElem_cons_drop h, List.take_append_drop]
end Go.Proofs.Ytdcojbamfchgiaa.BytesRow
