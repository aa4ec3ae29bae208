/- What chunk.Join computes: its pieces, one behind the other. -/
import Derived.Test.YtdcojbamfchgiaaShelf
import Derived.Test.YtdcojbamfchgiaaWWords
import Derived.WalkKit
import Derived.Lib.Join
namespace Go.Proofs.Ytdcojbamfchgiaa.Join
open Go Go.RowKit Go.Proofs.YtdcojbamfchgiaaW.PrintWords
def joined (l : List ByteArray) : List UInt8 := (l.map (·.data.toList)).flatten
def chunk_Join.f (l0 : List ByteArray) : Option ByteArray := if l0.length ≤ 140737488355328 ∧ (joined l0).length ≤ 140737488355328 then some ⟨(joined l0).toArray⟩ else none
theorem join_none (xs : List (List UInt8)) : Lib.join xs [] = xs.flatten := by
  cases xs with
  | nil => rfl
  | cons x r => rw [Lib.join_cons]; simp [Lib.joinTail]
theorem chunk_Join.calls (A0 : Option Addr) (c0 : Nat) (l0 : List ByteArray) (r : ByteArray) (w : World) (hr0 : Kd.C Kd.string w A0 l0.length l0) (hc0 : l0.length ≤ c0) (h : chunk_Join.f l0 = some r) :
    Calls Try.prog 14 #[.slice A0 l0.length c0] w fun e w' => e = .returned (.string r) ∧ Below w.heap.size w w' := by
  unfold chunk_Join.f at h
  split at h
  case isFalse => cases h
  case isTrue hs =>
    obtain rfl := Option.some.inj h
    have hcon : Calls Try.prog 25 #[.slice A0 l0.length c0, .string ⟨#[]⟩] w fun e w' => e = .returned (.string ⟨(joined l0).toArray⟩) ∧ Below w.heap.size w w' := by
      rcases Nat.eq_zero_or_pos l0.length with hz | hz
      · have hl : l0 = [] := List.eq_nil_of_length_eq_zero hz
        subst hl
        refine (Try.strings_Join_none A0 c0 ⟨#[]⟩ w).mono ?_
        rintro e w' ⟨rfl, rfl⟩
        exact ⟨rfl, Below.refl _ _⟩
      · obtain ⟨ad, rfl, _⟩ := Kd.at_string hr0 0 (by omega) (by omega)
        have hcell : ∀ (j : Nat) x, l0[j]? = some x → w.cell? (ad.add j) = some (.string x) := by
          intro j x hx
          have hj : j < l0.length := (List.getElem?_eq_some_iff.mp hx).1
          obtain ⟨ad', e, hc⟩ := Kd.at_string hr0 (j : Int) (by omega) (by omega)
          cases e
          rw [show ((j : Int)).toNat = j by omega] at hc
          rw [hc]
          congr 2
          unfold rdOf
          rw [show ((j : Int)).toNat = j by omega, List.getD_eq_getElem?_getD, hx, Option.getD_some]
        obtain ⟨x0, hx0⟩ : ∃ x, l0[0]? = some x := ⟨_, List.getElem?_eq_getElem hz⟩
        have h0 := hcell 0 x0 hx0
        obtain ⟨bk, o, sp⟩ := ad
        have hsp : sp = none := by
          cases sp with
          | none => rfl
          | some q =>
            exfalso
            simp only [Addr.add, if_true] at h0
            unfold World.cell? at h0
            split at h0 <;> simp at h0
        subst hsp
        have hbk : bk < w.heap.size := by
          rcases Nat.lt_or_ge bk w.heap.size with h' | h'
          · exact h'
          · simp [Addr.add, World.cell?, Array.getElem?_eq_none h'] at h0
        have hall : ∀ (j : Nat) x, l0[j]? = some x → w.cell? ⟨bk, o + j, none⟩ = some (.string x) := by
          intro j x hx
          have hc := hcell j x hx
          rwa [show (⟨bk, o, none⟩ : Addr).add j = ⟨bk, o + j, none⟩ by unfold Addr.add; split <;> simp_all] at hc
        have hj : Lib.join (l0.map (·.data.toList)) (⟨#[]⟩ : ByteArray).data.toList = joined l0 := join_none _
        have hcon := Try.strings_Join bk o c0 l0 ⟨#[]⟩ w hall hbk hs.1 hc0 (by rw [hj]; exact hs.2)
        rw [hj] at hcon
        exact hcon
    clear hr0 hc0 hs
    generalize joined l0 = J at hcon ⊢
    go_enter Try.func14, Try.ntmps14
    go_wp2_with (go_at_call 25; refine hcon.mono ?_; rintro e w' ⟨rfl, hb'⟩)
    go_ret
    exact ⟨rfl, hb'⟩
end Go.Proofs.Ytdcojbamfchgiaa.Join
