/-
  WordDivides: a quotient times the divisor, and the rest, are the number; the rest is nearer to 0 than the divisor. Condition: both numbers are of 64 bits with a sign.
-/
import Derived.Test.YtpahpebchjajfaaM9
import Derived.Test.YtpahpebchjajfaaBinAt
namespace Go.Proofs.Ytpahpebchjajfaa.Pure
open Go.RowKit Go.Proofs.Ytpahpebchjajfaa.M Go.Proofs.Ytpahpebchjajfaa.Num Go.Proofs.YtpahpebchjajfaaW.PrintWords Go.Proofs.YtpahpebchjajfaaW.PrintLast

theorem live_20d : cotterlaw01_live.f 20 = some true := by decide +kernel

theorem tmod_sign (a b : Int) : (0 ≤ a → 0 ≤ Int.tmod a b) ∧ (a < 0 → Int.tmod a b ≤ 0) := by
  refine ⟨fun h => Int.tmod_nonneg b h, fun h => ?_⟩
  have := Int.tmod_nonneg (a := -a) b (by omega)
  rw [Int.neg_tmod] at this
  omega

theorem WordDivides : cotterlaw01_WordDivides.Pure := by
  intro a b ha hb
  obtain ⟨a0, a1⟩ := wf_i64 ha
  obtain ⟨b0, b1⟩ := wf_i64 hb
  refine ⟨20, ?_⟩
  unfold cotterlaw01_WordDivides.f
  rw [Bin.at_div 17 a b a0 a1 b0 b1, Bin.at_rem 17 a b a0 a1 b0 b1]
  simp only [Option.bind_some]
  by_cases h0 : b = 0
  · simp [h0, live_20d]
  · simp only [h0, if_false]
    rw [Bin.at_mul 17]
    simp only [Option.bind_some]
    rw [Bin.at_add 17]
    simp only [Option.bind_some, if_true, live_20d]
    by_cases h1 : b = -1
    · subst h1
      simp only [if_true]
      rw [if_pos (by unfold wrap64; omega)]
      simp [wrap64]
    · simp only [h1, if_false]
      have hs := Bin.tmod_small (a := a) h0
      obtain ⟨g1, g2⟩ := tmod_sign a b
      have e : Int.tmod a b = a - Int.tdiv a b * b := by rw [Int.tmod_def, Int.mul_comm]
      generalize Int.tdiv a b * b = p at *
      generalize Int.tmod a b = r at *
      rw [if_pos (by unfold wrap64; omega)]
      by_cases hr : r = 0
      · rw [if_pos hr]
        by_cases hm : b = -9223372036854775808
        · rw [if_pos hm]
        · rw [if_neg hm]
          by_cases hb : r < b
          · rw [if_pos hb, if_pos (by unfold wrap64; omega)]
          · rw [if_neg hb, if_pos (by unfold wrap64; omega), if_pos (by omega)]
      · rw [if_neg hr, if_pos (by by_cases hn : a < 0 <;> simp [hn] <;> omega)]
        by_cases hm : b = -9223372036854775808
        · rw [if_pos hm]
        · rw [if_neg hm]
          by_cases hb : r < b
          · rw [if_pos hb]
            by_cases hp : 0 < b
            · rw [if_pos (by unfold wrap64; omega)]
            · omega
          · rw [if_neg hb, if_pos (by unfold wrap64; omega), if_pos (by omega)]

end Go.Proofs.Ytpahpebchjajfaa.Pure
