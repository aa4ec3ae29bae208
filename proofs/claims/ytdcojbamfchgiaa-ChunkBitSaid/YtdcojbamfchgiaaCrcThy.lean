/- Plain laws of the sum over bytes: it is a fold of a step that is linear and loses nothing. No program in sight. -/
import Derived.Test.YtdcojbamfchgiaaGiven
namespace Go.Proofs.Ytdcojbamfchgiaa.CrcThy
open Go Go.RowKit Go.Proofs.YtdcojbamfchgiaaW.PrintWords Go.Proofs.Ytdcojbamfchgiaa.Given

def stepB (c : BitVec 32) : BitVec 32 := (c >>> 1) ^^^ (if c.getLsbD 0 then 3988292384#32 else 0#32)
def T : Nat → BitVec 32 → BitVec 32
  | 0, c => c
  | n + 1, c => stepB (T n c)
def W (b : UInt8) : BitVec 32 := BitVec.ofNat 32 b.toNat
def sumB (l : List UInt8) (c : BitVec 32) : BitVec 32 := l.foldl (fun c b => T 8 (c ^^^ W b)) c
def crcB (l : List UInt8) : BitVec 32 := sumB l 4294967295#32 ^^^ 4294967295#32

theorem stepB_xor (a b : BitVec 32) : stepB (a ^^^ b) = stepB a ^^^ stepB b := by
  unfold stepB
  rw [BitVec.getLsbD_xor, BitVec.ushiftRight_xor_distrib]
  cases a.getLsbD 0 <;> cases b.getLsbD 0 <;> simp
  · rw [BitVec.xor_assoc]
  · rw [BitVec.xor_assoc, BitVec.xor_assoc, BitVec.xor_comm (3988292384#32)]
  · rw [show (a >>> 1 ^^^ 3988292384#32 ^^^ (b >>> 1 ^^^ 3988292384#32)) = (a >>> 1 ^^^ b >>> 1) ^^^ (3988292384#32 ^^^ 3988292384#32) from by ac_rfl]
    simp
theorem stepB_zero {x : BitVec 32} (h : stepB x = 0#32) : x = 0#32 := by
  unfold stepB at h
  cases hb : x.getLsbD 0 with
  | true =>
    rw [hb, if_pos rfl] at h
    have h2 := congrArg (fun y => BitVec.getLsbD y 31) h
    simp at h2
  | false =>
    rw [hb, if_neg (by simp), BitVec.xor_zero] at h
    have h2 := congrArg BitVec.toNat h
    rw [BitVec.toNat_ushiftRight, Nat.shiftRight_eq_div_pow] at h2
    simp at h2
    have h3 : x.toNat % 2 = 0 := by
      have := BitVec.getLsbD x 0
      rw [BitVec.getLsbD, Nat.testBit_zero] at hb
      simpa using hb
    apply BitVec.eq_of_toNat_eq
    simp; omega
theorem T_xor (n : Nat) (a b : BitVec 32) : T n (a ^^^ b) = T n a ^^^ T n b := by
  induction n with
  | zero => rfl
  | succ n ih => simp only [T, ih, stepB_xor]
theorem T_zero (n : Nat) {x : BitVec 32} (h : T n x = 0#32) : x = 0#32 := by
  induction n with
  | zero => exact h
  | succ n ih => exact ih (stepB_zero h)
theorem xor_eq_zero {a b : BitVec 32} (h : a ^^^ b = 0#32) : a = b := by
  have h2 : (a ^^^ b) ^^^ b = 0#32 ^^^ b := by rw [h]
  rwa [BitVec.xor_assoc, BitVec.xor_self, BitVec.xor_zero, BitVec.zero_xor] at h2
theorem T_inj (n : Nat) {a b : BitVec 32} (h : T n a = T n b) : a = b := by
  apply xor_eq_zero; apply T_zero n; rw [T_xor, h, BitVec.xor_self]
theorem xor_right_inj {a b c : BitVec 32} (h : a ^^^ c = b ^^^ c) : a = b := by
  have h2 : (a ^^^ c) ^^^ c = (b ^^^ c) ^^^ c := by rw [h]
  simpa [BitVec.xor_assoc] using h2
theorem xor_left_inj {a b c : BitVec 32} (h : c ^^^ a = c ^^^ b) : a = b := by
  rw [BitVec.xor_comm c a, BitVec.xor_comm c b] at h; exact xor_right_inj h
theorem W_inj {a b : UInt8} (h : W a = W b) : a = b := by
  have h2 := congrArg BitVec.toNat h
  unfold W at h2
  simp at h2
  exact UInt8.toNat_inj.1 h2
theorem sumB_cons (b : UInt8) (l : List UInt8) (c : BitVec 32) : sumB (b :: l) c = sumB l (T 8 (c ^^^ W b)) := rfl
theorem sumB_append (l m : List UInt8) (c : BitVec 32) : sumB (l ++ m) c = sumB m (sumB l c) := List.foldl_append ..
theorem sumB_inj (l : List UInt8) : ∀ {a b : BitVec 32}, sumB l a = sumB l b → a = b := by
  induction l with
  | nil => intro a b h; exact h
  | cons x l ih => intro a b h; exact xor_right_inj (T_inj 8 (ih h))
/-- One byte that is another is told. -/
theorem crcB_one (p q : List UInt8) {x y : UInt8} (h : x ≠ y) : crcB (p ++ x :: q) ≠ crcB (p ++ y :: q) := by
  intro e
  have e2 := xor_right_inj e
  rw [sumB_append, sumB_append, sumB_cons, sumB_cons] at e2
  exact h (W_inj (xor_left_inj (T_inj 8 (sumB_inj q e2))))
/-- What eight rounds make of a byte goes beyond a byte. -/
theorem T_byte : ∀ d : Fin 256, d.val ≠ 0 → 256 ≤ (T 8 (BitVec.ofNat 32 d.val)).toNat := by decide +kernel
theorem W_xor (a b : UInt8) : W a ^^^ W b = BitVec.ofNat 32 (a ^^^ b).toNat := by
  unfold W
  apply BitVec.eq_of_toNat_eq
  have := a.toNat_lt; have := b.toNat_lt; have := (a ^^^ b).toNat_lt
  simp
/-- Two bytes side by side, one of them another: told. -/
theorem crcB_two (p q : List UInt8) {x1 x2 y1 y2 : UInt8} (h : x1 ≠ y1 ∨ x2 ≠ y2) : crcB (p ++ x1 :: x2 :: q) ≠ crcB (p ++ y1 :: y2 :: q) := by
  by_cases h1 : x1 = y1
  · subst h1
    have h2 : x2 ≠ y2 := h.resolve_left (fun k => k rfl)
    have := crcB_one (p ++ [x1]) q h2
    simpa using this
  · intro e
    have e2 := xor_right_inj e
    rw [sumB_append, sumB_append, sumB_cons, sumB_cons, sumB_cons, sumB_cons] at e2
    have e3 := T_inj 8 (sumB_inj q e2)
    rw [T_xor, T_xor] at e3
    have e4 : T 8 (W x1 ^^^ W y1) = W x2 ^^^ W y2 := by
      rw [T_xor]
      apply xor_eq_zero
      have e5 : (T 8 (sumB p 4294967295#32) ^^^ T 8 (W x1) ^^^ W x2) ^^^ (T 8 (sumB p 4294967295#32) ^^^ T 8 (W y1) ^^^ W y2) = 0#32 := by rw [e3, BitVec.xor_self]
      rw [← e5]
      rw [show (T 8 (sumB p 4294967295#32) ^^^ T 8 (W x1) ^^^ W x2) ^^^ (T 8 (sumB p 4294967295#32) ^^^ T 8 (W y1) ^^^ W y2) = (T 8 (sumB p 4294967295#32) ^^^ T 8 (sumB p 4294967295#32)) ^^^ (T 8 (W x1) ^^^ T 8 (W y1) ^^^ (W x2 ^^^ W y2)) from by ac_rfl, BitVec.xor_self, BitVec.zero_xor]
    rw [W_xor, W_xor] at e4
    have l1 := (x1 ^^^ y1).toNat_lt
    have l2 := (x2 ^^^ y2).toNat_lt
    have h5 := T_byte ⟨(x1 ^^^ y1).toNat, by omega⟩ (fun k => h1 (by
      have k2 : (x1 ^^^ y1).toNat = 0 := k
      have k3 : x1 ^^^ y1 = 0 := UInt8.toNat_inj.1 (by simpa using k2)
      have k4 : (x1 ^^^ y1) ^^^ y1 = 0 ^^^ y1 := by rw [k3]
      simpa [UInt8.xor_assoc] using k4))
    rw [e4] at h5
    rw [BitVec.toNat_ofNat, Nat.mod_eq_of_lt (by omega)] at h5
    omega

/-! What the program computes is this sum. -/
theorem ofInt_toNat (b : BitVec 32) : BitVec.ofInt 32 (b.toNat : Int) = b := by
  apply BitVec.eq_of_toNat_eq
  simp
theorem wrap_lt (b : BitVec 32) : IntKind.u32.wrap (b.toNat : Int) = b.toNat := by
  have := b.isLt
  simp [IntKind.wrap, IntKind.bits, IntKind.signed]
  omega
theorem bits_xor (a b : BitVec 32) : Go.bits .xor .u32 (a.toNat : Int) (b.toNat : Int) = ((a ^^^ b).toNat : Int) := by
  show IntKind.u32.wrap (((BitVec.ofInt 32 (a.toNat : Int)) ^^^ (BitVec.ofInt 32 (b.toNat : Int))).toNat : Int) = _
  rw [ofInt_toNat, ofInt_toNat, wrap_lt]
theorem bits_and (a b : BitVec 32) : Go.bits .and .u32 (a.toNat : Int) (b.toNat : Int) = ((a &&& b).toNat : Int) := by
  show IntKind.u32.wrap (((BitVec.ofInt 32 (a.toNat : Int)) &&& (BitVec.ofInt 32 (b.toNat : Int))).toNat : Int) = _
  rw [ofInt_toNat, ofInt_toNat, wrap_lt]
theorem stepI_B (c : BitVec 32) : stepI (c.toNat : Int) = ((stepB c).toNat : Int) := by
  unfold stepI stepB
  have h1 : (c.toNat : Int) / (2 : Int) = ((c >>> 1).toNat : Int) := by
    rw [BitVec.toNat_ushiftRight, Nat.shiftRight_eq_div_pow]; simp
  have h2 : Go.bits .and .u32 (c.toNat : Int) 1 = ((c.toNat % 2 : Nat) : Int) := by
    have := bits_and c 1#32
    rw [show ((1#32 : BitVec 32).toNat : Int) = 1 from rfl] at this
    rw [this, BitVec.toNat_and]
    congr 1
    exact Nat.and_one_is_mod _
  have h3 : (3988292384 * ((c.toNat % 2 : Nat) : Int)) % 4294967296 = (((if c.getLsbD 0 then 3988292384#32 else 0#32) : BitVec 32).toNat : Int) := by
    rw [BitVec.getLsbD, Nat.testBit_zero]
    rcases Nat.mod_two_eq_zero_or_one c.toNat with h | h <;> rw [h] <;> simp
  rw [h1, h2, h3, bits_xor]
theorem roundsI_B (n : Nat) (c : BitVec 32) : roundsI n (c.toNat : Int) = ((T n c).toNat : Int) := by
  induction n with
  | zero => rfl
  | succ n ih => simp only [roundsI, T, ih, stepI_B]
theorem W_nat (b : UInt8) : ((W b).toNat : Int) = (b.toNat : Int) := by
  unfold W; simp
theorem byteI_B (c : BitVec 32) (b : UInt8) : byteI (c.toNat : Int) (b.toNat : Int) = ((T 8 (c ^^^ W b)).toNat : Int) := by
  unfold byteI
  rw [← W_nat, bits_xor, roundsI_B]
theorem sumI_B (l : List UInt8) : ∀ c : BitVec 32, l.foldl (fun c b => byteI c (b.toNat : Int)) (c.toNat : Int) = ((sumB l c).toNat : Int) := by
  induction l with
  | nil => intro c; rfl
  | cons b l ih => intro c; rw [List.foldl_cons, byteI_B, ih, sumB_cons]
/-- The sum of bytes, as the program makes it. -/
theorem crcI_B (l : List UInt8) : crcI l = ((crcB l).toNat : Int) := by
  rw [crcI_is]; unfold crcI0 sumI crcB
  have h := sumI_B l 4294967295#32
  rw [show ((4294967295#32 : BitVec 32).toNat : Int) = 4294967295 from rfl] at h
  have h2 := bits_xor (sumB l 4294967295#32) 4294967295#32
  rw [show ((4294967295#32 : BitVec 32).toNat : Int) = 4294967295 from rfl] at h2
  rw [h, h2]
  have := (sumB l 4294967295#32 ^^^ 4294967295#32).isLt
  unfold wrap64; omega
theorem crcI_lo (l : List UInt8) : 0 ≤ crcI l := by rw [crcI_B]; omega
theorem crcI_hi (l : List UInt8) : crcI l < 4294967296 := by rw [crcI_B]; have := (crcB l).isLt; omega
theorem crcI_eq {l m : List UInt8} : crcI l = crcI m ↔ crcB l = crcB m := by
  rw [crcI_B, crcI_B]
  exact ⟨fun h => BitVec.eq_of_toNat_eq (by omega), fun h => by rw [h]⟩
theorem crcI_one (p q : List UInt8) {x y : UInt8} (h : x ≠ y) : crcI (p ++ x :: q) ≠ crcI (p ++ y :: q) := fun e => crcB_one p q h (crcI_eq.1 e)
theorem crcI_two (p q : List UInt8) {x1 x2 y1 y2 : UInt8} (h : x1 ≠ y1 ∨ x2 ≠ y2) : crcI (p ++ x1 :: x2 :: q) ≠ crcI (p ++ y1 :: y2 :: q) := fun e => crcB_two p q h (crcI_eq.1 e)
theorem crc_awake : crcI [49, 50, 51, 52, 53, 54, 55, 56, 57] = 3421780262 ∧ crcI [97] ≠ crcI [98] := by
  rw [crcI_B, crcI_B, crcI_B]; decide +kernel
end Go.Proofs.Ytdcojbamfchgiaa.CrcThy
