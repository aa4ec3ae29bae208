-- Printed by a program of this session's own (wip/gen), which turns the kit's printer; not one of the kit's printed texts.
import Derived.Test.YtdcojbamfchgiaaQChunkx0
namespace Go.Proofs.Ytdcojbamfchgiaa.QChunk
open Go.RowKit Go.Proofs.Ytdcojbamfchgiaa.Given Go.Proofs.Ytdcojbamfchgiaa.Right Go.Proofs.Ytdcojbamfchgiaa.RExpert Go.Proofs.Ytdcojbamfchgiaa.Export Go.Proofs.Ytdcojbamfchgiaa.Join Go.Proofs.YtdcojbamfchgiaaW.PrintWords Go.Proofs.YtdcojbamfchgiaaW.PrintLast Go.Proofs.YtdcojbamfchgiaaW.PrintMore
attribute [local go_sem] max2_int min2_int max_two min_two max_three min_three max_four min_four   -- for this text's walks alone
set_option linter.unusedVariables false
set_option linter.unusedSimpArgs false
noncomputable section

/-! ### chunk_number: function 30 -/
def chunk_number.f (a0 : ByteArray) (a1 : Int) : Option (Int) := if 0 ≤ (wrap64 (4 * a1)) then (if (wrap64 (4 * a1)) < (a0.size : Int) then (if 0 ≤ (wrap64 ((wrap64 (4 * a1)) + 1)) then (if (wrap64 ((wrap64 (4 * a1)) + 1)) < (a0.size : Int) then (if 0 ≤ (wrap64 ((wrap64 (4 * a1)) + 2)) then (if (wrap64 ((wrap64 (4 * a1)) + 2)) < (a0.size : Int) then (if 0 ≤ (wrap64 ((wrap64 (4 * a1)) + 3)) then (if (wrap64 ((wrap64 (4 * a1)) + 3)) < (a0.size : Int) then (some (wrap64 (wrap32 (Go.bits .or .u32 (Go.bits .or .u32 (Go.bits .or .u32 ((bt a0 (wrap64 (4 * a1))) % 4294967296) ((((bt a0 (wrap64 ((wrap64 (4 * a1)) + 1))) % 4294967296) * 256) % 4294967296)) ((((bt a0 (wrap64 ((wrap64 (4 * a1)) + 2))) % 4294967296) * 65536) % 4294967296)) ((((bt a0 (wrap64 ((wrap64 (4 * a1)) + 3))) % 4294967296) * 16777216) % 4294967296))))) else (none)) else (none)) else (none)) else (none)) else (none)) else (none)) else (none)) else (none)
set_option maxHeartbeats 8000000 in
set_option maxRecDepth 100000 in
theorem chunk_number.calls (a0 : ByteArray) (a1 : Int) (r : Int) (w : World) (h : chunk_number.f a0 a1 = some r) :
    Calls Try.prog 30 #[.string a0, .int .i64 a1] w fun e w' => e = .returned (.int .i64 r) ∧ Drawn0 w w' := by
  have H : (if 0 ≤ (wrap64 (4 * a1)) then (if (wrap64 (4 * a1)) < (a0.size : Int) then (if 0 ≤ (wrap64 ((wrap64 (4 * a1)) + 1)) then (if (wrap64 ((wrap64 (4 * a1)) + 1)) < (a0.size : Int) then (if 0 ≤ (wrap64 ((wrap64 (4 * a1)) + 2)) then (if (wrap64 ((wrap64 (4 * a1)) + 2)) < (a0.size : Int) then (if 0 ≤ (wrap64 ((wrap64 (4 * a1)) + 3)) then (if (wrap64 ((wrap64 (4 * a1)) + 3)) < (a0.size : Int) then (some (wrap64 (wrap32 (Go.bits .or .u32 (Go.bits .or .u32 (Go.bits .or .u32 ((bt a0 (wrap64 (4 * a1))) % 4294967296) ((((bt a0 (wrap64 ((wrap64 (4 * a1)) + 1))) % 4294967296) * 256) % 4294967296)) ((((bt a0 (wrap64 ((wrap64 (4 * a1)) + 2))) % 4294967296) * 65536) % 4294967296)) ((((bt a0 (wrap64 ((wrap64 (4 * a1)) + 3))) % 4294967296) * 16777216) % 4294967296))))) else (none)) else (none)) else (none)) else (none)) else (none)) else (none)) else (none)) else (none)) = some r := h
  clear h
  obtain ⟨ji3, hji3⟩ : ∃ j_ : Int, (wrap64 (4 * a1)) = j_ := ⟨_, rfl⟩
  replace H : (if 0 ≤ (ji3) then (if (ji3) < (a0.size : Int) then (if 0 ≤ (wrap64 ((ji3) + 1)) then (if (wrap64 ((ji3) + 1)) < (a0.size : Int) then (if 0 ≤ (wrap64 ((ji3) + 2)) then (if (wrap64 ((ji3) + 2)) < (a0.size : Int) then (if 0 ≤ (wrap64 ((ji3) + 3)) then (if (wrap64 ((ji3) + 3)) < (a0.size : Int) then (some (wrap64 (wrap32 (Go.bits .or .u32 (Go.bits .or .u32 (Go.bits .or .u32 ((bt a0 (ji3)) % 4294967296) ((((bt a0 (wrap64 ((ji3) + 1))) % 4294967296) * 256) % 4294967296)) ((((bt a0 (wrap64 ((ji3) + 2))) % 4294967296) * 65536) % 4294967296)) ((((bt a0 (wrap64 ((ji3) + 3))) % 4294967296) * 16777216) % 4294967296))))) else (none)) else (none)) else (none)) else (none)) else (none)) else (none)) else (none)) else (none)) = some r := by first | (rw [hji3] at H; exact H) | (simp only [hji3] at H ⊢; exact H)
  have hji3w : (IntKind.i64.wrap (4 * a1)) = ji3 := (i64_w _).trans hji3
  by_cases c4 : 0 ≤ (ji3)
  · rw [if_pos c4] at H
    have c4b0 : decide (0 ≤ (ji3)) = true := decide_eq_true c4
    clear c4
    by_cases c5 : (ji3) < (a0.size : Int)
    · rw [if_pos c5] at H
      have c5b0 : decide ((ji3) < (a0.size : Int)) = true := decide_eq_true c5
      clear c5
      obtain ⟨ji7, hji7⟩ : ∃ j_ : Int, (wrap64 ((ji3) + 1)) = j_ := ⟨_, rfl⟩
      replace H : (if 0 ≤ (ji7) then (if (ji7) < (a0.size : Int) then (if 0 ≤ (wrap64 ((ji3) + 2)) then (if (wrap64 ((ji3) + 2)) < (a0.size : Int) then (if 0 ≤ (wrap64 ((ji3) + 3)) then (if (wrap64 ((ji3) + 3)) < (a0.size : Int) then (some (wrap64 (wrap32 (Go.bits .or .u32 (Go.bits .or .u32 (Go.bits .or .u32 ((bt a0 (ji3)) % 4294967296) ((((bt a0 (ji7)) % 4294967296) * 256) % 4294967296)) ((((bt a0 (wrap64 ((ji3) + 2))) % 4294967296) * 65536) % 4294967296)) ((((bt a0 (wrap64 ((ji3) + 3))) % 4294967296) * 16777216) % 4294967296))))) else (none)) else (none)) else (none)) else (none)) else (none)) else (none)) = some r := by first | (rw [hji7] at H; exact H) | (simp only [hji7] at H ⊢; exact H)
      have hji7w : (IntKind.i64.wrap ((ji3) + 1)) = ji7 := (i64_w _).trans hji7
      by_cases c8 : 0 ≤ (ji7)
      · rw [if_pos c8] at H
        have c8b0 : decide (0 ≤ (ji7)) = true := decide_eq_true c8
        clear c8
        by_cases c9 : (ji7) < (a0.size : Int)
        · rw [if_pos c9] at H
          have c9b0 : decide ((ji7) < (a0.size : Int)) = true := decide_eq_true c9
          clear c9
          obtain ⟨ji11, hji11⟩ : ∃ j_ : Int, (wrap64 ((ji3) + 2)) = j_ := ⟨_, rfl⟩
          replace H : (if 0 ≤ (ji11) then (if (ji11) < (a0.size : Int) then (if 0 ≤ (wrap64 ((ji3) + 3)) then (if (wrap64 ((ji3) + 3)) < (a0.size : Int) then (some (wrap64 (wrap32 (Go.bits .or .u32 (Go.bits .or .u32 (Go.bits .or .u32 ((bt a0 (ji3)) % 4294967296) ((((bt a0 (ji7)) % 4294967296) * 256) % 4294967296)) ((((bt a0 (ji11)) % 4294967296) * 65536) % 4294967296)) ((((bt a0 (wrap64 ((ji3) + 3))) % 4294967296) * 16777216) % 4294967296))))) else (none)) else (none)) else (none)) else (none)) = some r := by first | (rw [hji11] at H; exact H) | (simp only [hji11] at H ⊢; exact H)
          have hji11w : (IntKind.i64.wrap ((ji3) + 2)) = ji11 := (i64_w _).trans hji11
          by_cases c12 : 0 ≤ (ji11)
          · rw [if_pos c12] at H
            have c12b0 : decide (0 ≤ (ji11)) = true := decide_eq_true c12
            clear c12
            by_cases c13 : (ji11) < (a0.size : Int)
            · rw [if_pos c13] at H
              have c13b0 : decide ((ji11) < (a0.size : Int)) = true := decide_eq_true c13
              clear c13
              obtain ⟨ji15, hji15⟩ : ∃ j_ : Int, (wrap64 ((ji3) + 3)) = j_ := ⟨_, rfl⟩
              replace H : (if 0 ≤ (ji15) then (if (ji15) < (a0.size : Int) then (some (wrap64 (wrap32 (Go.bits .or .u32 (Go.bits .or .u32 (Go.bits .or .u32 ((bt a0 (ji3)) % 4294967296) ((((bt a0 (ji7)) % 4294967296) * 256) % 4294967296)) ((((bt a0 (ji11)) % 4294967296) * 65536) % 4294967296)) ((((bt a0 (ji15)) % 4294967296) * 16777216) % 4294967296))))) else (none)) else (none)) = some r := by first | (rw [hji15] at H; exact H) | (simp only [hji15] at H ⊢; exact H)
              have hji15w : (IntKind.i64.wrap ((ji3) + 3)) = ji15 := (i64_w _).trans hji15
              by_cases c16 : 0 ≤ (ji15)
              · rw [if_pos c16] at H
                have c16b0 : decide (0 ≤ (ji15)) = true := decide_eq_true c16
                clear c16
                by_cases c17 : (ji15) < (a0.size : Int)
                · rw [if_pos c17] at H
                  have c17b0 : decide ((ji15) < (a0.size : Int)) = true := decide_eq_true c17
                  clear c17
                  obtain rfl := Option.some.inj H
                  have p6 : 0 ≤ ((ji3) : Int) := of_decide_eq_true (by first | (with_reducible assumption) | assumption)
                  have q6 : (ji3) < (a0.size : Int) := of_decide_eq_true (by first | (with_reducible assumption) | assumption)
                  have hx6 := bt_at a0 (ji3)
                  replace p6 := eq_true p6
                  replace q6 := eq_true q6
                  have p10 : 0 ≤ ((ji7) : Int) := of_decide_eq_true (by first | (with_reducible assumption) | assumption)
                  have q10 : (ji7) < (a0.size : Int) := of_decide_eq_true (by first | (with_reducible assumption) | assumption)
                  have hx10 := bt_at a0 (ji7)
                  replace p10 := eq_true p10
                  replace q10 := eq_true q10
                  have p14 : 0 ≤ ((ji11) : Int) := of_decide_eq_true (by first | (with_reducible assumption) | assumption)
                  have q14 : (ji11) < (a0.size : Int) := of_decide_eq_true (by first | (with_reducible assumption) | assumption)
                  have hx14 := bt_at a0 (ji11)
                  replace p14 := eq_true p14
                  replace q14 := eq_true q14
                  have p18 : 0 ≤ ((ji15) : Int) := of_decide_eq_true (by first | (with_reducible assumption) | assumption)
                  have q18 : (ji15) < (a0.size : Int) := of_decide_eq_true (by first | (with_reducible assumption) | assumption)
                  have hx18 := bt_at a0 (ji15)
                  replace p18 := eq_true p18
                  replace q18 := eq_true q18
                  go_enter Try.func30, Try.ntmps30
                  go_wp2
                  repeat (go_quiet (fail); try go_wp2)
                  go_ret
                  exact ⟨by first | rfl | (simp; done) | (simp only [← hji3, ← hji7, ← hji11, ← hji15] <;> (first | rfl | simp)) | (simp [*]; done), by repeat (first | exact Drawn0.refl _ | apply Drawn0.step)⟩
                · rw [if_neg c17] at H
                  exact absurd H (by simp)
              · rw [if_neg c16] at H
                exact absurd H (by simp)
            · rw [if_neg c13] at H
              exact absurd H (by simp)
          · rw [if_neg c12] at H
            exact absurd H (by simp)
        · rw [if_neg c9] at H
          exact absurd H (by simp)
      · rw [if_neg c8] at H
        exact absurd H (by simp)
    · rw [if_neg c5] at H
      exact absurd H (by simp)
  · rw [if_neg c4] at H
    exact absurd H (by simp)

end
end Go.Proofs.Ytdcojbamfchgiaa.QChunk
