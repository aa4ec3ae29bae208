/- What crc.Sum computes: the walk of its Go text, in the form of a printed function. -/
import Derived.Test.YtdcojbamfchgiaaProg
import Derived.WalkKit
import Derived.Below
import Derived.Lib.ConvBytes
import Derived.Test.YtdcojbamfchgiaaWWords
namespace Go.Proofs.Ytdcojbamfchgiaa.Given
open Go Go.RowKit Go.Proofs.YtdcojbamfchgiaaW.PrintWords
def stepI (c : Int) : Int := Go.bits .xor .u32 (c / 2) (3988292384 * Go.bits .and .u32 c 1 % 4294967296)
def roundsI : Nat → Int → Int
  | 0, c => c
  | n + 1, c => stepI (roundsI n c)
def byteI (c b : Int) : Int := roundsI 8 (Go.bits .xor .u32 c b)
def sumI (l : List UInt8) : Int := l.foldl (fun c b => byteI c (b.toNat : Int)) 4294967295

/-- The sum of bytes. -/
def crcI0 (l : List UInt8) : Int := wrap64 (Go.bits .xor .u32 (sumI l) 4294967295)
theorem crcI_ex : ∃ f : List UInt8 → Int, f = crcI0 := ⟨_, rfl⟩
/-- The same, closed: the kernel does not look into it. -/
noncomputable def crcI : List UInt8 → Int := Classical.choose crcI_ex
theorem crcI_is : crcI = crcI0 := Classical.choose_spec crcI_ex
theorem sumI_snoc (s : ByteArray) (k : Nat) (h : k < s.size) : sumI (s.data.toList.take (k + 1)) = byteI (sumI (s.data.toList.take k)) ((s.data.toList.getD k 0).toNat : Int) := by
  have h' : k < s.data.toList.length := by rw [data_length]; exact h
  unfold sumI
  rw [List.take_succ_eq_append_getElem h', List.foldl_append, List.foldl_cons, List.foldl_nil]
  simp [List.getD_eq_getElem?_getD, List.getElem?_eq_getElem h']
set_option maxHeartbeats 1000000 in
theorem crc_any (s : ByteArray) (w : World) (hs : s.size ≤ 140737488351232) :
    Calls Try.prog 23 #[.string s] w fun e w' => e = .returned (.int .i64 (crcI s.data.toList)) ∧ Below w.heap.size w w' := by
  have kb := fun W => print_bytes (P := Try.prog) 9 47 5 Try.underlying9 Try.underlying47 Try.underlying5 s W
  go_enter Try.func23, Try.ntmps23
  go_wp2
  have hcell : ∀ k (hk : k < s.size), (Lib.bytesWorld w 5 s).cell? ⟨w.heap.size, k, none⟩ = some (.int .u8 (s.data.toList.getD k 0).toNat) := fun k hk => Lib.bytesWorld_cell w 5 s k hk
  have hb := bytes_below (Below.refl w.heap.size w) (Nat.le_refl _) 5 s
  generalize Lib.bytesWorld w 5 s = wo at hcell hb
  have HC := Aside0.mk hcell
  have HB := Aside0.mk hb
  clear kb hcell hb
  go_loop [3, 10] (fun c i => ∃ k : Nat, k ≤ s.size ∧ i = .int .i64 k ∧ c = .int .u32 (sumI (s.data.toList.take k))) (fun _ i => s.size - (intOf i).toNat)
  case atStart => exact ⟨0, Nat.zero_le _, rfl, rfl⟩
  case round =>
    obtain ⟨k, hk, rfl, rfl⟩ := hrel
    obtain ⟨C, HCe⟩ : ∃ C, Aside0 (sumI (s.data.toList.take k) = C) := ⟨_, ⟨rfl⟩⟩
    rw [HCe.out]
    by_cases hlt : k < s.size
    · have hc := HC.out k hlt
      obtain ⟨b, hbe, hb0, hb1⟩ : ∃ b : Int, Aside0 (((s.data.toList.getD k 0).toNat : Int) = b) ∧ 0 ≤ b ∧ b ≤ 255 := ⟨_, ⟨rfl⟩, by omega, by have := (s.data.toList.getD k 0).toNat_lt; omega⟩
      rw [hbe.out] at hc
      go_wp2
      obtain ⟨D, HD⟩ : ∃ D, Aside0 (Go.bits .xor .u32 C b = D) := ⟨_, ⟨rfl⟩⟩
      rw [HD.out]
      go_loop [3, 18] (fun c j => ∃ n : Nat, n ≤ 8 ∧ j = .int .i64 n ∧ c = .int .u32 (roundsI n D)) (fun _ j => 8 - (intOf j).toNat)
      case atStart => exact ⟨0, Nat.zero_le _, rfl, rfl⟩
      case round =>
        obtain ⟨n, hn, rfl, rfl⟩ := hrel
        obtain ⟨F, HF⟩ : ∃ F, Aside0 (roundsI n D = F) := ⟨_, ⟨rfl⟩⟩
        rw [HF.out]
        by_cases hnt : n < 8
        · have hst : Aside0 (roundsI (n + 1) D = stepI F) := ⟨by rw [show roundsI (n + 1) D = stepI (roundsI n D) from rfl, HF.out]⟩
          go_wp2
          go_round
          case rel => exact ⟨n + 1, by omega, by go_num, by rw [hst.out]; rfl⟩
          case measure => simp [intOf]; omega
        · obtain rfl : n = 8 := by omega
          have hst : Aside0 (sumI (s.data.toList.take (k + 1)) = F) := ⟨by rw [sumI_snoc s k hlt, HCe.out, hbe.out, ← HF.out, ← HD.out]; rfl⟩
          go_wp2
          go_round
          case rel => exact ⟨k + 1, by omega, by go_num, by rw [hst.out]⟩
          case measure => simp [intOf]; omega
    · obtain rfl : k = s.size := by omega
      have hst : Aside0 (sumI s.data.toList = C) := ⟨by rw [← HCe.out, List.take_of_length_le (by rw [data_length]; exact Nat.le_refl _)]⟩
      go_wp2
      go_ret
      exact ⟨by rw [crcI_is]; unfold crcI0; rw [hst.out]; rfl, HB.out⟩
noncomputable def crc_Sum.f (a0 : ByteArray) : Option Int := if a0.size ≤ 140737488351232 then some (crcI a0.data.toList) else none
theorem crc_Sum.calls (a0 : ByteArray) (r : Int) (w : World) (h : crc_Sum.f a0 = some r) :
    Calls Try.prog 23 #[.string a0] w fun e w' => e = .returned (.int .i64 r) ∧ Below w.heap.size w w' := by
  unfold crc_Sum.f at h
  split at h
  · rename_i hs
    obtain rfl := Option.some.inj h
    exact crc_any a0 w hs
  · cases h
end Go.Proofs.Ytdcojbamfchgiaa.Given
