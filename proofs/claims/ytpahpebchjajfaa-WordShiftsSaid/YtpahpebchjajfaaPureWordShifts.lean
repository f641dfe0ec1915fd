/-
  WordShifts: shifted to the left and back, a number of few bits is what it was. Condition: the number is of 32 bits with a sign, the count of 8 bits.
-/
import Derived.Test.YtpahpebchjajfaaM10
import Derived.Test.YtpahpebchjajfaaBinAt
namespace Go.Proofs.Ytpahpebchjajfaa.Pure
open Go.RowKit Go.Proofs.Ytpahpebchjajfaa.M Go.Proofs.Ytpahpebchjajfaa.Num Go.Proofs.YtpahpebchjajfaaW.PrintWords Go.Proofs.YtpahpebchjajfaaW.PrintLast

theorem live_20s : cotterlaw01_live.f 20 = some true := by decide +kernel

theorem shift_back (a k : Int) (h0 : -2147483648 ≤ a) (h1 : a < 2147483648) (k0 : 0 ≤ k) (k1 : k < 32) :
    shr .i64 (shl .i64 a k) k = a := by
  unfold shl shr
  rw [wrap_i64]
  have hm : min k.toNat IntKind.i64.bits = k.toNat := Nat.min_eq_left (by have : IntKind.i64.bits = 64 := rfl; omega)
  rw [hm]
  have hn1 : 1 ≤ 2 ^ k.toNat := Nat.one_le_two_pow
  have hn2 : 2 ^ k.toNat ≤ 2 ^ 31 := Nat.pow_le_pow_right (by decide) (by omega)
  have h31 : (2 : Nat) ^ 31 = 2147483648 := by decide
  have he : ((2 ^ k.toNat : Nat) : Int) = (2 : Int) ^ k.toNat := by simp
  rw [h31] at hn2
  have hp1 : (1 : Int) ≤ 2 ^ k.toNat := by rw [← he]; omega
  have hp2 : (2 : Int) ^ k.toNat ≤ 2147483648 := by rw [← he]; omega
  clear he h31 hn1 hn2
  generalize (2 : Int) ^ k.toNat = p at *
  have u1 : a * p ≤ 2147483647 * p := Int.mul_le_mul_of_nonneg_right (by omega) (by omega)
  have u2 : -2147483648 * p ≤ a * p := Int.mul_le_mul_of_nonneg_right (by omega) (by omega)
  rw [wrap64_id (by omega) (by omega)]
  exact Int.mul_ediv_cancel _ (by omega)

theorem WordShifts : cotterlaw01_WordShifts.Pure := by
  intro a n ha hn
  obtain ⟨a0, a1⟩ := wf_i32 ha
  obtain ⟨n0, n1⟩ := wf_u8 hn
  refine ⟨20, ?_⟩
  unfold cotterlaw01_WordShifts.f
  have e : Int.tmod n 32 = n % 32 := Int.tmod_eq_emod_of_nonneg n0
  have e1 : wrap64 (Int.tmod n 32) = n % 32 := by rw [e]; exact wrap64_id (by omega) (by omega)
  have e2 : wrap64 (n % 32 + 64) = n % 32 + 64 := wrap64_id (by omega) (by omega)
  have e3 : n % 32 % 64 = n % 32 := by omega
  have e4 : (n % 32 + 64) % 64 = n % 32 := by omega
  have e5 : wrap64 a = a := wrap64_id (by omega) (by omega)
  rw [e1, e2, e5, Bin.at_shl 17, Bin.at_shl 17, e3, e4]
  simp only [Option.bind_some]
  rw [Bin.at_sar 17, e3]
  simp only [Option.bind_some, if_true]
  rw [if_pos (shift_back a (n % 32) a0 a1 (by omega) (by omega)), live_20s]
  rfl

end Go.Proofs.Ytpahpebchjajfaa.Pure
