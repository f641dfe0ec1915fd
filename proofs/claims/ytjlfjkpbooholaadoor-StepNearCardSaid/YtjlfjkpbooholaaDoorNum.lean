/-
  Plain lemmas on Go's whole numbers (wraps, bit operations, shifts), without any program. No condition.
-/
import Derived.Test.YtjlfjkpbooholaaDoorOwn
import Derived.Laws.BitsLemmas
namespace Go.Proofs.YtjlfjkpbooholaaDoor.Num
open Go.RowKit Go.Proofs.YtjlfjkpbooholaaDoorW.PrintWords

theorem wf_i64 {a : Int} (h : (Lit.int .i64 a).wf = true) : -9223372036854775808 ≤ a ∧ a < 9223372036854775808 := by
  simp [Lit.wf, IntKind.min, IntKind.max, IntKind.signed, IntKind.bits] at h; omega
theorem wf_u64 {a : Int} (h : (Lit.int .u64 a).wf = true) : 0 ≤ a ∧ a < 18446744073709551616 := by
  simp [Lit.wf, IntKind.min, IntKind.max, IntKind.signed, IntKind.bits] at h; omega
theorem wf_i32 {a : Int} (h : (Lit.int .i32 a).wf = true) : -2147483648 ≤ a ∧ a < 2147483648 := by
  simp [Lit.wf, IntKind.min, IntKind.max, IntKind.signed, IntKind.bits] at h; omega
theorem wf_u8 {a : Int} (h : (Lit.int .u8 a).wf = true) : 0 ≤ a ∧ a < 256 := by
  simp [Lit.wf, IntKind.min, IntKind.max, IntKind.signed, IntKind.bits] at h; omega

theorem wrap64_id {n : Int} (h : -9223372036854775808 ≤ n) (h' : n < 9223372036854775808) : wrap64 n = n := by
  unfold wrap64; omega
theorem wrap64_range (n : Int) : -9223372036854775808 ≤ wrap64 n ∧ wrap64 n < 9223372036854775808 := by
  unfold wrap64; omega
theorem wrap_u64 (n : Int) : IntKind.u64.wrap n = n % 18446744073709551616 := by simp [IntKind.wrap, IntKind.bits, IntKind.signed]
theorem wrap_i8 (n : Int) : IntKind.i8.wrap n = (n + 128) % 256 - 128 := by
  simp [IntKind.wrap, IntKind.bits, IntKind.signed]
  split <;> omega
theorem wrap_i64 (n : Int) : IntKind.i64.wrap n = wrap64 n := by rw [IntKind.wrap_i64]; unfold wrap64; rfl
theorem wrap_u64_id {n : Int} (h : 0 ≤ n) (h' : n < 18446744073709551616) : IntKind.u64.wrap n = n := by
  rw [wrap_u64]; omega

/-- A mask of the low bits of a number with a sign. -/
theorem ofInt_toNat (k : Nat) (x : Int) : ((BitVec.ofInt k x).toNat : Int) = x % 2 ^ k := by
  rw [BitVec.toNat_ofInt]
  have h1 : ((2 ^ k : Nat) : Int) = (2 : Int) ^ k := by simp
  have h2 : (0 : Int) < 2 ^ k := by rw [← h1]; exact_mod_cast Nat.two_pow_pos k
  have h3 := Int.emod_nonneg x (show ((2 : Int) ^ k) ≠ 0 by omega)
  rw [h1, Int.toNat_of_nonneg h3]

theorem bits_and_i64 (x y : Int) : bits .and .i64 x y = wrap64 ((BitVec.ofInt 64 x).toNat &&& (BitVec.ofInt 64 y).toNat : Nat) := by
  rw [← BitVec.toNat_and, ← wrap_i64]; rfl
theorem bits_or_i64 (x y : Int) : bits .or .i64 x y = wrap64 ((BitVec.ofInt 64 x).toNat ||| (BitVec.ofInt 64 y).toNat : Nat) := by
  rw [← BitVec.toNat_or, ← wrap_i64]; rfl
theorem and63 (x : Int) : bits .and .i64 x 63 = x % 64 := by
  rw [bits_and_i64]
  have h2 : (BitVec.ofInt 64 (63 : Int)).toNat = 2 ^ 6 - 1 := by decide
  rw [h2, Nat.and_two_pow_sub_one_eq_mod]
  have h := ofInt_toNat 64 x
  unfold wrap64
  omega

theorem and63_range (x : Int) : 0 ≤ bits .and .i64 x 63 ∧ bits .and .i64 x 63 < 64 := by
  rw [and63]; omega

/-- `&`, `|`, `^` of numbers with a sign go in either order. -/
theorem bits_and_comm (k : IntKind) (x y : Int) : bits .and k x y = bits .and k y x := by
  unfold bits; simp only [BitVec.and_comm]
theorem bits_or_comm (k : IntKind) (x y : Int) : bits .or k x y = bits .or k y x := by
  unfold bits; simp only [BitVec.or_comm]
theorem bits_xor_comm (k : IntKind) (x y : Int) : bits .xor k x y = bits .xor k y x := by
  unfold bits; simp only [BitVec.xor_comm]

end Go.Proofs.YtjlfjkpbooholaaDoor.Num
