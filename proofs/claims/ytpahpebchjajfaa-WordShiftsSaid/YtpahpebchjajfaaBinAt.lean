/-
  What the program's word.Bin answers, instruction by instruction (plain Lean). Condition: at DIV and REM the numbers are of 64 bits with a sign.
-/
import Derived.Test.YtpahpebchjajfaaBin
namespace Go.Proofs.Ytpahpebchjajfaa.Bin
open Go.RowKit Go.Proofs.Ytpahpebchjajfaa.M Go.Proofs.Ytpahpebchjajfaa.Num Go.Proofs.YtpahpebchjajfaaW.PrintWords Go.Proofs.YtpahpebchjajfaaW.PrintLast

theorem at_add (k : Nat) (a b : Int) : word_Bin.f (k + 3) 3 a b = some (wrap64 (a + b), 0) := rfl
theorem at_sub (k : Nat) (a b : Int) : word_Bin.f (k + 3) 4 a b = some (wrap64 (a - b), 0) := rfl
theorem at_mul (k : Nat) (a b : Int) : word_Bin.f (k + 3) 5 a b = some (wrap64 (a * b), 0) := rfl
theorem at_and (k : Nat) (a b : Int) : word_Bin.f (k + 3) 8 a b = some (Go.bits .and .i64 a b, 0) := by simp [word_Bin.f, word_Bin.j0]
theorem at_or (k : Nat) (a b : Int) : word_Bin.f (k + 3) 9 a b = some (Go.bits .or .i64 a b, 0) := by simp [word_Bin.f, word_Bin.j0]
theorem at_xor (k : Nat) (a b : Int) : word_Bin.f (k + 3) 10 a b = some (Go.bits .xor .i64 a b, 0) := by simp [word_Bin.f, word_Bin.j0]
theorem at_shl (k : Nat) (a b : Int) : word_Bin.f (k + 3) 11 a b = some (shl .i64 a (b % 64), 0) := by
  have h := and63_range b
  have e := and63 b
  simp [word_Bin.f, word_Bin.j0, e]
  omega
theorem at_sar (k : Nat) (a b : Int) : word_Bin.f (k + 3) 12 a b = some (shr .i64 a (b % 64), 0) := by
  have h := and63_range b
  have e := and63 b
  simp [word_Bin.f, word_Bin.j0, e]
  omega
theorem at_eq (k : Nat) (a b : Int) : word_Bin.f (k + 3) 13 a b = some (if a = b then 1 else 0, 0) := by
  by_cases h : a = b <;> simp [word_Bin.f, word_Bin.j0, word_flag.f, h]
theorem at_ne (k : Nat) (a b : Int) : word_Bin.f (k + 3) 14 a b = some (if a = b then 0 else 1, 0) := by
  by_cases h : a = b <;> simp [word_Bin.f, word_Bin.j0, word_flag.f, h]
theorem at_lt (k : Nat) (a b : Int) : word_Bin.f (k + 3) 15 a b = some (if a < b then 1 else 0, 0) := by
  by_cases h : a < b <;> simp [word_Bin.f, word_Bin.j0, word_flag.f, h]
theorem at_le (k : Nat) (a b : Int) : word_Bin.f (k + 3) 16 a b = some (if a ≤ b then 1 else 0, 0) := by
  by_cases h : a ≤ b <;> simp [word_Bin.f, word_Bin.j0, word_flag.f, h]
theorem at_div (k : Nat) (a b : Int) (ha : -9223372036854775808 ≤ a) (ha' : a < 9223372036854775808) (hb1 : -9223372036854775808 ≤ b) (hb2 : b < 9223372036854775808) :
    word_Bin.f (k + 3) 6 a b = some (if b = 0 then 0 else if b = -1 then wrap64 (-a) else Int.tdiv a b, if b = 0 then 10 else 0) := by
  have h := divide_same k 6 a b ha ha' hb1 hb2 (.inl rfl)
  have e : word_Bin.f (k + 3) 6 a b = (word_divide.f (k + 2) 6 a b).bind fun bt101 => some (bt101.1, bt101.2) := by simp [word_Bin.f, word_Bin.j0]
  rw [e, h]
  unfold cotterref01_quotient.f
  by_cases h0 : b = 0
  · simp [h0]
  · by_cases h1 : b = -1
    · simp [h1]
    · obtain ⟨q0, q1⟩ := tdiv_bounds ha ha' h1 h0
      simp [h0, h1, wrap64_id q0 q1]
theorem at_rem (k : Nat) (a b : Int) (ha : -9223372036854775808 ≤ a) (ha' : a < 9223372036854775808) (hb1 : -9223372036854775808 ≤ b) (hb2 : b < 9223372036854775808) :
    word_Bin.f (k + 3) 7 a b = some (if b = 0 then 0 else if b = -1 then 0 else Int.tmod a b, if b = 0 then 10 else 0) := by
  have h := divide_same k 7 a b ha ha' hb1 hb2 (.inr rfl)
  have e : word_Bin.f (k + 3) 7 a b = (word_divide.f (k + 2) 7 a b).bind fun bt101 => some (bt101.1, bt101.2) := by simp [word_Bin.f, word_Bin.j0]
  rw [e, h]
  unfold cotterref01_quotient.f
  by_cases h0 : b = 0
  · simp [h0]
  · by_cases h1 : b = -1
    · subst h1
      simp
      unfold wrap64
      omega
    · simp [h0, h1, rest_eq ha ha' hb1 hb2 h1 h0]

end Go.Proofs.Ytpahpebchjajfaa.Bin
