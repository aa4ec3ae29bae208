/- A right message's bytes: one byte turned, a beginning, more behind: refused; unlike messages have unlike bytes. What the stage's fixed answer is. Plain laws, and the printed functions' answers. -/
import Derived.Test.YtgfpkhihdahjlabQWirex8
import Derived.Test.YtgfpkhihdahjlabWireLaw
namespace Go.Proofs.Ytgfpkhihdahjlab.WireLaw
open Go Go.RowKit Go.Proofs.YtgfpkhihdahjlabW.PrintWords Go.Proofs.Ytgfpkhihdahjlab.Given Go.Proofs.Ytgfpkhihdahjlab.CrcThy Go.Proofs.Ytgfpkhihdahjlab.WireThy Go.Proofs.Ytgfpkhihdahjlab.WireFun Go.Proofs.Ytgfpkhihdahjlab.QWire

theorem take_cases (B : List UInt8) : (takeS B).2.2 = 0 ∨ ((takeS B).2.2 ≠ 0 ∧ (takeS B).1 = zeros ∧ (takeS B).2.1 = []) := by
  unfold takeS msgOf
  split
  · exact Or.inr ⟨by decide, rfl, rfl⟩
  · split
    · exact Or.inr ⟨by decide, rfl, rfl⟩
    · split
      · exact Or.inl rfl
      · exact Or.inr ⟨by decide, rfl, rfl⟩
/-- The first four bytes and the last four. -/
theorem put_ends {m v : List Int} (hm : m.length = 10) : (putB m v).take 4 = fourB (((putB m v).length : Int) - 4) ∧ (putB m v).drop ((putB m v).length - 4) = fourB (crcI (((putB m v).drop 4).take ((putB m v).length - 8))) := by
  have hl : (bodyB m v).length = 44 + 4 * v.length := by unfold bodyB; rw [flat_len, listOf_len hm]; omega
  have e : putB m v = fourB (4 * ((listOf m v).length : Int) + 4) ++ (bodyB m v ++ fourB (crcI (bodyB m v))) := by
    unfold putB; rw [flat_cons, flat_append, flat_cons, flat_nil, List.append_nil]; rfl
  rw [put_body hm, putB_len hm]
  constructor
  · rw [e, List.take_left' (fourB_len _), listOf_len hm]; congr 1; omega
  · rw [e, ← List.append_assoc]
    exact List.drop_left' (by rw [List.length_append, fourB_len]; omega)
theorem set_ne {l : List UInt8} {p : Nat} {y : UInt8} (hp : p < l.length) (h : l.set p y = l) : y = l[p] := by
  have := congrArg (fun k => k[p]?) h
  simp only [List.getElem?_set_self hp, List.getElem?_eq_getElem hp, Option.some.injEq] at this
  exact this
theorem turned_ends {B : List UInt8} {p : Nat} {y : UInt8} (h52 : 52 ≤ B.length) (hp : p < B.length) (hy : y ≠ B[p])
    (h1 : B.take 4 = fourB ((B.length : Int) - 4)) (h2 : B.drop (B.length - 4) = fourB (crcI ((B.drop 4).take (B.length - 8))))
    (k1 : (B.set p y).take 4 = fourB ((B.length : Int) - 4)) (k2 : (B.set p y).drop (B.length - 4) = fourB (crcI (((B.set p y).drop 4).take (B.length - 8)))) : False := by
  by_cases c1 : p < 4
  · rw [List.take_set, h1, ← h1] at k1
    have := set_ne (by rw [List.length_take]; omega) k1
    rw [List.getElem_take] at this; exact hy this
  · by_cases c2 : p < B.length - 4
    · have e1 : (B.set p y).drop (B.length - 4) = B.drop (B.length - 4) := by rw [List.drop_set, if_pos c2]
      have e2 : ((B.set p y).drop 4).take (B.length - 8) = ((B.drop 4).take (B.length - 8)).set (p - 4) y := by rw [List.drop_set, if_neg c1, List.take_set]
      rw [e1, h2, e2] at k2
      have k3 := fourB_inj k2
      have lo1 := crcI_lo ((B.drop 4).take (B.length - 8)); have hi1 := crcI_hi ((B.drop 4).take (B.length - 8))
      have lo2 := crcI_lo (((B.drop 4).take (B.length - 8)).set (p - 4) y); have hi2 := crcI_hi (((B.drop 4).take (B.length - 8)).set (p - 4) y)
      have k4 : crcI ((B.drop 4).take (B.length - 8)) = crcI (((B.drop 4).take (B.length - 8)).set (p - 4) y) := by omega
      have hlt : p - 4 < ((B.drop 4).take (B.length - 8)).length := by rw [List.length_take, List.length_drop]; omega
      have s2 : ((B.drop 4).take (B.length - 8)).set (p - 4) y = ((B.drop 4).take (B.length - 8)).take (p - 4) ++ y :: ((B.drop 4).take (B.length - 8)).drop (p - 4 + 1) := List.set_eq_take_append_cons_drop .. |>.trans (if_pos hlt)
      have s1 : (B.drop 4).take (B.length - 8) = ((B.drop 4).take (B.length - 8)).take (p - 4) ++ ((B.drop 4).take (B.length - 8))[p - 4] :: ((B.drop 4).take (B.length - 8)).drop (p - 4 + 1) := by
        rw [List.getElem_cons_drop hlt, List.take_append_drop]
      have hx : ((B.drop 4).take (B.length - 8))[p - 4] = B[p] := by
        rw [List.getElem_take, List.getElem_drop]; congr 1; omega
      rw [hx] at s1
      refine crcI_one (((B.drop 4).take (B.length - 8)).take (p - 4)) (((B.drop 4).take (B.length - 8)).drop (p - 4 + 1)) (Ne.symm hy) ?_
      rw [← s1, ← s2]; exact k4
    · have e2 : ((B.set p y).drop 4).take (B.length - 8) = (B.drop 4).take (B.length - 8) := by
        rw [List.drop_set, if_neg c1, List.take_set]
        exact List.set_eq_of_length_le (by rw [List.length_take]; omega)
      rw [e2, ← h2, List.drop_set, if_neg c2] at k2
      have := set_ne (by rw [List.length_drop]; omega) k2
      rw [List.getElem_drop] at this
      refine hy (this.trans ?_); congr 1; omega
/-- One byte turned: refused. -/
theorem take_turned {m v : List Int} (hm : m.length = 10) {p : Nat} {y : UInt8} (hp : p < (putB m v).length) (hy : y ≠ (putB m v)[p]) : (takeS ((putB m v).set p y)).2.2 ≠ 0 := by
  intro h0
  have e : takeS ((putB m v).set p y) = ((takeS ((putB m v).set p y)).1, (takeS ((putB m v).set p y)).2.1, 0) := by rw [← h0]
  obtain ⟨_, hB, hm2⟩ := put_take e
  have a := put_ends (v := v) hm
  have b := put_ends (v := (takeS ((putB m v).set p y)).2.1) hm2
  rw [hB, List.length_set] at b
  exact turned_ends (by rw [putB_len hm]; omega) hp hy a.1 a.2 b.1 b.2
theorem put_first {m v : List Int} (hm : m.length = 10) (hv : v.length ≤ 8) (C : List UInt8) (n : Nat) (hn : 4 ≤ n) (h : C.take n = (putB m v).take n) (h2 : 3 < C.length) : (nums C).getD 0 0 = ((putB m v).length : Int) - 4 := by
  have g (j : Nat) (hj : j < 4) : C.getD j 0 = (putB m v).getD j 0 := by
    have := congrArg (fun l => l[j]?) h
    simp only [List.getElem?_take, if_pos (show j < n by omega)] at this
    rw [List.getD_eq_getElem?_getD, List.getD_eq_getElem?_getD, this]
  have hl := putB_len (v := v) hm
  rw [nums_get 0 C (by omega), g _ (by omega), g _ (by omega), g _ (by omega), g _ (by omega), ← nums_get 0 (putB m v) (by omega)]
  unfold putB
  rw [nums_flat, List.map_cons, List.getD_cons_zero, ← putB, putB_len hm, listOf_len hm]; omega
/-- A beginning: refused. -/
theorem take_begin {m v : List Int} (hm : m.length = 10) (hv : v.length ≤ 8) (n : Nat) (hn : n < (putB m v).length) : (takeS ((putB m v).take n)).2.2 = 2 := by
  have hl : ((putB m v).take n).length = n := by rw [List.length_take]; omega
  unfold takeS
  rw [hl]
  by_cases h : n < 52
  · rw [if_pos (Or.inl h)]
  · have := put_first hm hv ((putB m v).take n) n (by omega) (by rw [List.take_take, Nat.min_self]) (by omega)
    rw [if_pos (Or.inr (Or.inl (by rw [this]; omega)))]
/-- More behind: refused. -/
theorem take_more {m v : List Int} (hm : m.length = 10) (hv : v.length ≤ 8) (z : List UInt8) (hz : z ≠ []) : (takeS (putB m v ++ z)).2.2 = 2 := by
  have hz2 : 0 < z.length := List.length_pos_iff.2 hz
  have hl := putB_len (v := v) hm
  have := put_first hm hv (putB m v ++ z) (putB m v).length (by omega) (by rw [List.take_left, List.take_length]) (by rw [List.length_append]; omega)
  unfold takeS
  rw [List.length_append, if_pos (Or.inr (Or.inl (by rw [this]; omega)))]
theorem put_inj {m v m' v' : List Int} (hm : m.length = 10) (hm' : m'.length = 10) (hr : RightB m v = true) (hr' : RightB m' v' = true) (h : putB m v = putB m' v') : m = m' ∧ v = v' := by
  have a := take_put hm hr
  rw [h, take_put hm' hr'] at a
  simp only [Prod.mk.injEq] at a
  exact ⟨a.1.symm, a.2.1.symm⟩
/-- What is told of one text's message, as twelve. -/
theorem tells_ok {r : Option (Int × Int × Int × Int × Int × Int × Int × Int × Int × Int × List Int × Int)} {m0 m1 m2 m3 m4 m5 m6 m7 m8 m9 : Int} {v : List Int} {e : Int} (h : Tells r ([m0, m1, m2, m3, m4, m5, m6, m7, m8, m9], v, e)) : r = some (m0, m1, m2, m3, m4, m5, m6, m7, m8, m9, v, e) := by
  obtain ⟨n0, n1, n2, n3, n4, n5, n6, n7, n8, n9, u, e', h1, h2⟩ := h
  simp only [Prod.mk.injEq, List.cons.injEq] at h2
  obtain ⟨⟨rfl, rfl, rfl, rfl, rfl, rfl, rfl, rfl, rfl, rfl, _⟩, rfl, rfl⟩ := h2
  exact h1
theorem put_yes {m0 m1 m2 m3 m4 m5 m6 m7 m8 m9 : Int} {v : List Int} (hr : RightB [m0, m1, m2, m3, m4, m5, m6, m7, m8, m9] v = true) (k : Nat) (hk : 100 ≤ k) :
    ∃ t : ByteArray, wire_Put.f k m0 m1 m2 m3 m4 m5 m6 m7 m8 m9 v = some (t, 0) ∧ t.data.toList = putB [m0, m1, m2, m3, m4, m5, m6, m7, m8, m9] v ∧ t.size = 52 + 4 * v.length := by
  have h5 := (right_parts hr).2.2.2.2
  have h := put_is m0 m1 m2 m3 m4 m5 m6 m7 m8 m9 v (by omega) k (by omega)
  rw [if_pos hr] at h
  obtain ⟨t, h1, h2⟩ := h
  exact ⟨t, h1, h2, by rw [← data_length, h2, putB_len rfl]⟩
theorem put_no {m0 m1 m2 m3 m4 m5 m6 m7 m8 m9 : Int} {v : List Int} (hv : v.length ≤ 9223372036854775807) (hr : ¬ RightB [m0, m1, m2, m3, m4, m5, m6, m7, m8, m9] v = true) (k : Nat) (hk : v.length + 100 ≤ k) :
    wire_Put.f k m0 m1 m2 m3 m4 m5 m6 m7 m8 m9 v = some (⟨#[]⟩, 1) := by
  have h := put_is m0 m1 m2 m3 m4 m5 m6 m7 m8 m9 v hv k (by omega)
  rwa [if_neg hr] at h
/-- The stage's fixed answer. -/
theorem awake_wire (k : Nat) (hk : 1000 ≤ k) : switchboardlaw07_awake.f k = some true := by
  have hr : RightB [1, 0, 0, 5, 0, 0, 0, 0, 0, 0] [] = true := by decide
  obtain ⟨t, h1, h2, h3⟩ := put_yes hr k (by omega)
  have t1 := take_is t (by rw [h3]; simp) k (by rw [h3]; simp; omega)
  rw [h2, take_put rfl hr] at t1
  have t2 := take_is ⟨#[120]⟩ (by decide) k (by show 1 + 100 ≤ k; omega)
  have e2 : takeS (⟨#[120]⟩ : ByteArray).data.toList = (zeros, [], 2) := by
    unfold takeS; rw [if_pos (Or.inl (by decide))]
  rw [e2] at t2
  unfold switchboardlaw07_awake.f
  rw [h1, Option.bind_some, tells_ok t1, Option.bind_some, tells_ok t2, Option.bind_some]
  rw [if_pos (by show (t.size : Int) = 52; rw [h3]; rfl), if_pos rfl, if_pos rfl, if_pos rfl, if_pos rfl]
  rfl
end Go.Proofs.Ytgfpkhihdahjlab.WireLaw
