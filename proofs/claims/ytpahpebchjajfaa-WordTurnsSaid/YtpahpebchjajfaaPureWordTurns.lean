/-
  WordTurns: sums, products and the like are the same in either order; a difference and a sum turn each other back; what is less is not the same, nor greater. Condition: both numbers are of 64 bits with a sign.
-/
import Derived.Test.YtpahpebchjajfaaM8
import Derived.Test.YtpahpebchjajfaaBinAt
namespace Go.Proofs.Ytpahpebchjajfaa.Pure
open Go.RowKit Go.Proofs.Ytpahpebchjajfaa.M Go.Proofs.Ytpahpebchjajfaa.Num Go.Proofs.YtpahpebchjajfaaW.PrintWords Go.Proofs.YtpahpebchjajfaaW.PrintLast

theorem turn_round (k : Nat) (a b i op v : Int) (h0 : 0 ≤ i) (h1 : i < 7) (ho : rd [3, 5, 8, 9, 10, 13, 14] i = op)
    (e1 : word_Bin.f (k + 3) op a b = some (v, 0)) (e2 : word_Bin.f (k + 3) op b a = some (v, 0)) :
    cotterlaw01_WordTurns.l0 (k + 4) a b [3, 5, 8, 9, 10, 13, 14] i = cotterlaw01_WordTurns.l0 (k + 3) a b [3, 5, 8, 9, 10, 13, 14] (i + 1) := by
  have hw : wrap64 (i + 1) = i + 1 := wrap64_id (by omega) (by omega)
  have hl : (([3, 5, 8, 9, 10, 13, 14] : List Int).length : Int) = 7 := rfl
  conv => lhs; unfold cotterlaw01_WordTurns.l0
  rw [hl, if_pos h1, if_pos h0, ho, e1, e2, hw]
  simp

theorem live_22 : cotterlaw01_live.f 22 = some true := by decide +kernel

theorem WordTurns : cotterlaw01_WordTurns.Pure := by
  intro a b ha hb
  obtain ⟨a0, a1⟩ := wf_i64 ha
  obtain ⟨b0, b1⟩ := wf_i64 hb
  refine ⟨30, ?_⟩
  unfold cotterlaw01_WordTurns.f
  refine Eq.trans (turn_round 26 a b 0 3 (wrap64 (a + b)) (by omega) (by omega) rfl (Bin.at_add _ _ _) (by rw [Bin.at_add, Int.add_comm])) ?_
  refine Eq.trans (turn_round 25 a b 1 5 (wrap64 (a * b)) (by omega) (by omega) rfl (Bin.at_mul _ _ _) (by rw [Bin.at_mul, Int.mul_comm])) ?_
  refine Eq.trans (turn_round 24 a b 2 8 (Go.bits .and .i64 a b) (by omega) (by omega) rfl (Bin.at_and _ _ _) (by rw [Bin.at_and, bits_and_comm])) ?_
  refine Eq.trans (turn_round 23 a b 3 9 (Go.bits .or .i64 a b) (by omega) (by omega) rfl (Bin.at_or _ _ _) (by rw [Bin.at_or, bits_or_comm])) ?_
  refine Eq.trans (turn_round 22 a b 4 10 (Go.bits .xor .i64 a b) (by omega) (by omega) rfl (Bin.at_xor _ _ _) (by rw [Bin.at_xor, bits_xor_comm])) ?_
  refine Eq.trans (turn_round 21 a b 5 13 (if a = b then 1 else 0) (by omega) (by omega) rfl (Bin.at_eq _ _ _) (by rw [Bin.at_eq]; simp only [eq_comm])) ?_
  refine Eq.trans (turn_round 20 a b 6 14 (if a = b then 0 else 1) (by omega) (by omega) rfl (Bin.at_ne _ _ _) (by rw [Bin.at_ne]; simp only [eq_comm])) ?_
  unfold cotterlaw01_WordTurns.l0
  rw [if_neg (by decide), Bin.at_sub 19, Bin.at_lt 19, Bin.at_le 19]
  simp only [Option.bind_some]
  rw [Bin.at_add 19]
  simp only [Option.bind_some, if_true]
  rw [if_pos (by unfold wrap64; omega), if_pos (by unfold wrap64; split <;> split <;> omega), live_22]
  rfl

end Go.Proofs.Ytpahpebchjajfaa.Pure
