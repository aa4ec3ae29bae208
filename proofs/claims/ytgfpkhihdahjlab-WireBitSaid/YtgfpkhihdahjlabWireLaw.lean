/- Messages and their bytes: what is written is taken back, and the other way round; one byte turned, a beginning, more behind: refused. Plain laws. -/
import Derived.Test.YtgfpkhihdahjlabWireTak
namespace Go.Proofs.Ytgfpkhihdahjlab.WireLaw
open Go Go.RowKit Go.Proofs.YtgfpkhihdahjlabW.PrintWords Go.Proofs.Ytgfpkhihdahjlab.Given Go.Proofs.Ytgfpkhihdahjlab.CrcThy Go.Proofs.Ytgfpkhihdahjlab.WireThy Go.Proofs.Ytgfpkhihdahjlab.WireFun

theorem right_parts {m v : List Int} (h : RightB m v = true) : HdOk m ∧ VecOk v ∧ 1 ≤ m.headD 0 ∧ m.headD 0 ≤ 4 ∧ v.length ≤ 8 := by
  unfold RightB at h
  simp only [Bool.and_eq_true, decide_eq_true_eq] at h
  exact h
theorem listOf_len {m v : List Int} (hm : m.length = 10) : (listOf m v).length = v.length + 11 := by unfold listOf; simp [hm]; omega
theorem putB_len {m v : List Int} (hm : m.length = 10) : (putB m v).length = 52 + 4 * v.length := by
  unfold putB; rw [flat_len, List.length_cons, List.length_append, listOf_len hm, List.length_singleton]; omega
theorem map_mod_id {l : List Int} (h : ∀ n ∈ l, 0 ≤ n ∧ n < 4294967296) : l.map (· % 4294967296) = l := by
  induction l with
  | nil => rfl
  | cons n r ih =>
    rw [List.forall_mem_cons] at h
    rw [List.map_cons, ih h.2]; congr 1; omega
theorem map_sg_mod {l : List Int} (h : VecOk l) : (l.map (· % 4294967296)).map sg = l := by
  induction l with
  | nil => rfl
  | cons n r ih =>
    unfold VecOk at h ih
    rw [List.forall_mem_cons] at h
    rw [List.map_cons, List.map_cons, ih h.2, sg_of h.1.1 h.1.2]
theorem flat_sg {l : List Int} (h : ∀ n ∈ l, 0 ≤ n ∧ n < 4294967296) : flat (l.map sg) = flat l := by
  rw [← flat_mod, List.map_map]
  congr 1
  induction l with
  | nil => rfl
  | cons n r ih =>
    rw [List.forall_mem_cons] at h
    rw [List.map_cons, ih h.2]; congr 1
    exact sg_mod h.1.1 h.1.2
/-- The numbers of a right message's bytes. -/
theorem nums_put {m v : List Int} (hm : m.length = 10) (hr : RightB m v = true) :
    nums (putB m v) = (4 * (v.length : Int) + 48) :: (m ++ (v.length : Int) :: (v.map (· % 4294967296) ++ [crcI (bodyB m v)])) := by
  obtain ⟨h1, h2, _, _, h5⟩ := right_parts hr
  have c0 := crcI_lo (bodyB m v)
  have c1 := crcI_hi (bodyB m v)
  unfold putB
  rw [nums_flat, List.map_cons, List.map_append, listOf_len hm]
  unfold listOf
  rw [List.map_append, List.map_append, map_mod_id (l := m) (fun n hn => by have := h1 n hn; omega)]
  simp only [List.map_cons, List.map_nil, List.append_assoc, List.cons_append, List.nil_append]
  rw [show (4 * ((v.length + 11 : Nat) : Int) + 4) % 4294967296 = 4 * (v.length : Int) + 48 from by omega, show (v.length : Int) % 4294967296 = v.length from by omega, show crcI (bodyB m v) % 4294967296 = crcI (bodyB m v) from by omega]
theorem put_body {m v : List Int} (hm : m.length = 10) : ((putB m v).drop 4).take ((putB m v).length - 8) = bodyB m v := by
  have hl : (bodyB m v).length = 44 + 4 * v.length := by unfold bodyB; rw [flat_len, listOf_len hm]; omega
  rw [putB_len hm]
  have e : putB m v = fourB (4 * ((listOf m v).length : Int) + 4) ++ (bodyB m v ++ fourB (crcI (bodyB m v))) := by
    unfold putB; rw [flat_cons, flat_append, flat_cons, flat_nil, List.append_nil]; rfl
  rw [e, List.drop_left' (fourB_len _), List.take_left' (by omega)]
/-- What is written is taken back. -/
theorem take_put {m v : List Int} (hm : m.length = 10) (hr : RightB m v = true) : takeS (putB m v) = (m, v, 0) := by
  obtain ⟨_, h2, _, _, h5⟩ := right_parts hr
  have hn := nums_put hm hr
  have hl := putB_len (v := v) hm
  match m, hm with
  | [m0, m1, m2, m3, m4, m5, m6, m7, m8, m9], _ =>
    unfold takeS
    rw [put_body rfl, hl, hn]
    rw [if_neg (by simp; omega)]
    rw [show (52 + 4 * v.length) / 4 - 1 = v.length + 12 from by omega]
    have e2 : ((4 * (v.length : Int) + 48) :: ([m0, m1, m2, m3, m4, m5, m6, m7, m8, m9] ++ (v.length : Int) :: (v.map (· % 4294967296) ++ [crcI (bodyB [m0, m1, m2, m3, m4, m5, m6, m7, m8, m9] v)]))).getD (v.length + 12) 0 = crcI (bodyB [m0, m1, m2, m3, m4, m5, m6, m7, m8, m9] v) := by
      simp only [List.cons_append, List.nil_append, List.getD_cons_succ]
      rw [List.getD_eq_getElem?_getD, List.getElem?_append_right (by rw [List.length_map]; exact Nat.le_refl _), List.length_map, Nat.sub_self]; rfl
    rw [e2, if_neg (fun k => k rfl)]
    unfold msgOf
    have e3 : (((4 * (v.length : Int) + 48) :: ([m0, m1, m2, m3, m4, m5, m6, m7, m8, m9] ++ (v.length : Int) :: (v.map (· % 4294967296) ++ [crcI (bodyB [m0, m1, m2, m3, m4, m5, m6, m7, m8, m9] v)]))).take (v.length + 12)).drop 12 = v.map (· % 4294967296) := by
      simp only [List.cons_append, List.nil_append, List.take_succ_cons, List.drop_succ_cons, List.drop_zero]
      exact List.take_left' (List.length_map _)
    have e4 : (((4 * (v.length : Int) + 48) :: ([m0, m1, m2, m3, m4, m5, m6, m7, m8, m9] ++ (v.length : Int) :: (v.map (· % 4294967296) ++ [crcI (bodyB [m0, m1, m2, m3, m4, m5, m6, m7, m8, m9] v)]))).drop 1).take 10 = [m0, m1, m2, m3, m4, m5, m6, m7, m8, m9] := by simp
    rw [e3, e4, map_sg_mod h2, if_pos ⟨by simp, hr⟩]
theorem split13 (X : List Int) (n : Nat) (h : X.length = n + 1) (hn : 12 ≤ n) : X = X.getD 0 0 :: ((X.drop 1).take 10 ++ (X.getD 11 0 :: ((X.take n).drop 12 ++ [X.getD n 0]))) := by
  have hlast : X = X.take n ++ [X.getD n 0] := by
    rw [List.getD_eq_getElem?_getD, List.getElem?_eq_getElem (by omega : n < X.length)]
    show X = X.take n ++ [X[n]]
    rw [← List.take_succ_eq_append_getElem, List.take_of_length_le (by omega)]
  have h12 : 12 ≤ X.length := by omega
  match X, h12, h with
  | x0 :: x1 :: x2 :: x3 :: x4 :: x5 :: x6 :: x7 :: x8 :: x9 :: x10 :: x11 :: r, _, h =>
    obtain ⟨n, rfl⟩ : ∃ k, n = k + 12 := ⟨n - 12, by omega⟩
    simp only [List.take_succ_cons, List.cons_append, List.cons.injEq, true_and, List.getD_cons_succ] at hlast
    simp only [List.getD_cons_zero, List.drop_succ_cons, List.drop_zero, List.take_succ_cons, List.take_zero, List.getD_cons_succ, List.cons_append, List.nil_append]
    rw [← hlast]
/-- What is taken is written as it was. -/
theorem put_take {B : List UInt8} {m v : List Int} (h : takeS B = (m, v, 0)) : RightB m v = true ∧ putB m v = B ∧ m.length = 10 := by
  unfold takeS at h
  split at h
  · simp at h
  · rename_i h1
    split at h
    · simp at h
    · rename_i h2
      unfold msgOf at h
      split at h
      · rename_i h3
        have hB : 52 ≤ B.length ∧ (nums B).getD 0 0 = (B.length : Int) - 4 ∧ B.length % 4 = 0 := by
          refine ⟨?_, ?_, ?_⟩
          · exact Nat.le_of_not_lt (fun k => h1 (Or.inl k))
          · exact Classical.not_not.1 (fun k => h1 (Or.inr (Or.inl k)))
          · exact Classical.not_not.1 (fun k => h1 (Or.inr (Or.inr k)))
        have h2' := Classical.not_not.1 h2
        have hlen := nums_len B
        injection h with e1 e2
        injection e2 with e2 _
        subst e1; subst e2
        have hs := split13 (nums B) (B.length / 4 - 1) (by omega) (by omega)
        have hr : ∀ x ∈ ((nums B).take (B.length / 4 - 1)).drop 12, 0 ≤ x ∧ x < 4294967296 := fun x hx => nums_range B x (List.mem_of_mem_take (List.mem_of_mem_drop hx))
        have hv : (((nums B).take (B.length / 4 - 1)).drop 12).length = B.length / 4 - 13 := by rw [List.length_drop, List.length_take]; omega
        have h10 : ((nums B).drop 1 |>.take 10).length = 10 := by rw [List.length_take, List.length_drop]; omega
        refine ⟨h3.2, ?_, h10⟩
        have hf := flat_nums B hB.2.2
        rw [hs, flat_cons, flat_append, flat_cons, flat_append, flat_cons, flat_nil, List.append_nil] at hf
        have hl2 : (flat ((nums B).drop 1 |>.take 10) ++ (fourB ((nums B).getD 11 0) ++ flat (((nums B).take (B.length / 4 - 1)).drop 12))).length = B.length - 8 := by
          rw [List.length_append, List.length_append, flat_len, flat_len, h10, hv, fourB_len]; omega
        have gen : ∀ (a S z : List UInt8), a ++ (S ++ z) = B → a.length = 4 → S.length = B.length - 8 → (B.drop 4).take (B.length - 8) = S := by
          intro a S z e h4 hl
          rw [← hl, ← e, List.drop_left' h4, List.take_left' rfl]
        have hbody : bodyB ((nums B).drop 1 |>.take 10) ((((nums B).take (B.length / 4 - 1)).drop 12).map sg) = (B.drop 4).take (B.length - 8) := by
          rw [gen _ _ (fourB ((nums B).getD (B.length / 4 - 1) 0)) (by simp only [List.append_assoc]; exact hf) (fourB_len _) hl2]
          unfold bodyB listOf
          rw [flat_append, flat_append, flat_sg hr, List.length_map, ← h3.1, flat_cons, flat_nil, List.append_nil, List.append_assoc]
        unfold putB
        rw [hbody, ← h2', flat_cons, flat_append]
        have hL : (4 * ((listOf ((nums B).drop 1 |>.take 10) ((((nums B).take (B.length / 4 - 1)).drop 12).map sg)).length : Int) + 4) = (nums B).getD 0 0 := by
          rw [listOf_len h10, List.length_map, hv, hB.2.1]; omega
        rw [hL]
        unfold listOf
        rw [flat_append, flat_append, flat_sg hr, List.length_map, ← h3.1, flat_cons, flat_nil, flat_cons, flat_nil, List.append_nil, List.append_nil]
        refine Eq.trans ?_ hf
        simp only [List.append_assoc]
      · simp at h
end Go.Proofs.Ytgfpkhihdahjlab.WireLaw
