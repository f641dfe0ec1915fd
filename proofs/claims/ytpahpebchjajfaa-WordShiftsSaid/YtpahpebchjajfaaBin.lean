/-
  What the program's word.Bin answers is what the document's answers (plain Lean). Condition: the two numbers are of 64 bits with a sign.
-/
import Derived.Test.YtpahpebchjajfaaNum
import Derived.Test.YtpahpebchjajfaaM3
namespace Go.Proofs.Ytpahpebchjajfaa.Bin
open Go.RowKit Go.Proofs.Ytpahpebchjajfaa.M Go.Proofs.Ytpahpebchjajfaa.Num Go.Proofs.YtpahpebchjajfaaW.PrintWords Go.Proofs.YtpahpebchjajfaaW.PrintLast

theorem tdiv_bounds {a b : Int} (ha : -9223372036854775808 ≤ a) (ha' : a < 9223372036854775808) (hb : b ≠ -1) (hb0 : b ≠ 0) : -9223372036854775808 ≤ Int.tdiv a b ∧ Int.tdiv a b < 9223372036854775808 := by
  have h1 : (Int.tdiv a b).natAbs = a.natAbs / b.natAbs := Int.natAbs_tdiv a b
  have hbn : b.natAbs ≠ 0 := by omega
  by_cases h : b = 1
  · subst h; rw [Int.tdiv_one]; omega
  · have h2 : a.natAbs / b.natAbs ≤ a.natAbs / 2 := Nat.div_le_div_left (by omega) (by omega)
    omega

theorem tmod_small {a b : Int} (hb0 : b ≠ 0) : (Int.tmod a b).natAbs ≤ a.natAbs ∧ (Int.tmod a b).natAbs < b.natAbs := by
  have h1 : (Int.tmod a b).natAbs = a.natAbs % b.natAbs := Int.natAbs_tmod a b
  rw [h1]
  exact ⟨Nat.mod_le _ _, Nat.mod_lt _ (by omega)⟩

theorem rest_eq {a b : Int} (ha : -9223372036854775808 ≤ a) (ha' : a < 9223372036854775808) (hb1 : -9223372036854775808 ≤ b) (hb2 : b < 9223372036854775808) (hb : b ≠ -1) (hb0 : b ≠ 0) :
    wrap64 (a - wrap64 (wrap64 (Int.tdiv a b) * b)) = Int.tmod a b := by
  obtain ⟨q0, q1⟩ := tdiv_bounds ha ha' hb hb0
  rw [wrap64_id q0 q1]
  have h := tmod_small (a := a) hb0
  have e : Int.tmod a b = a - Int.tdiv a b * b := by rw [Int.tmod_def, Int.mul_comm]
  generalize Int.tdiv a b * b = p at *
  generalize Int.tmod a b = m at *
  unfold wrap64
  omega

theorem neg_tdiv (a : Int) : Int.tdiv a (-1) = -a := by rw [Int.tdiv_neg, Int.tdiv_one]

theorem divide_same (k : Nat) (op a b : Int) (ha : -9223372036854775808 ≤ a) (ha' : a < 9223372036854775808) (hb1 : -9223372036854775808 ≤ b) (hb2 : b < 9223372036854775808) (hop : op = 6 ∨ op = 7) :
    word_divide.f (k + 2) op a b = cotterref01_quotient.f op a b := by
  unfold word_divide.f cotterref01_quotient.f
  by_cases h0 : b = 0
  · simp [h0]
  · rw [if_neg h0, if_neg h0]
    by_cases h1 : b = -1
    · subst h1
      rcases hop with rfl | rfl
      · by_cases hm : a = -9223372036854775808
        · subst hm; simp [word_divide.j0, wrap64]
        · simp [hm, word_divide.j0, word_divide.j1]
      · simp only [word_divide.j0, word_divide.j1]
        simp
        unfold wrap64
        omega
    · have hj : word_divide.j0 (k + 2) op a b false = if op = 6 then some (wrap64 (Int.tdiv a b), 0) else some (Int.tmod a b, 0) := by
        simp only [word_divide.j0, word_divide.j1]
        simp [h0, h1]
      simp only [h1, if_false, ite_self, hj]
      rw [rest_eq ha ha' hb1 hb2 h1 h0]

theorem some_ite {α : Type} {c : Prop} [Decidable c] {x y : Option α} (hx : x.isSome = true) (hy : y.isSome = true) : (if c then x else y).isSome = true := by
  split
  · exact hx
  · exact hy
theorem some_bind {α β : Type} {x : Option α} {f : α → Option β} (hx : x.isSome = true) (hf : ∀ a, (f a).isSome = true) : (x.bind f).isSome = true := by
  cases x with
  | none => cases hx
  | some a => exact hf a

theorem bin_same (k : Nat) (op a b : Int) (ha : -9223372036854775808 ≤ a) (ha' : a < 9223372036854775808) (hb1 : -9223372036854775808 ≤ b) (hb2 : b < 9223372036854775808) :
    ∃ r, word_Bin.f (k + 3) op a b = some r ∧ cotterref01_Bin.f (k + 3) op a b = some r := by
  have h63 := and63_range b
  have hu : IntKind.u64.wrap (Go.bits .and .i64 b 63) = Go.bits .and .i64 b 63 := wrap_u64_id (by omega) (by omega)
  have key : word_Bin.f (k + 3) op a b = cotterref01_Bin.f (k + 3) op a b ∧ (word_Bin.f (k + 3) op a b).isSome := by
    unfold word_Bin.f cotterref01_Bin.f
    by_cases h3 : op = 3
    · simp [h3]
    by_cases h4 : op = 4
    · simp [h4]
    by_cases h5 : op = 5
    · simp [h5]
    simp only [h3, h4, h5, if_false]
    by_cases h6 : op = 6
    · subst h6
      have := divide_same k 6 a b ha ha' hb1 hb2 (.inl rfl)
      simp only [word_Bin.j0, cotterref01_Bin.j0, if_true, BEq.rfl, this, true_and]
      unfold cotterref01_quotient.f
      repeat' (first | rfl | split)
    simp only [h6, if_false]
    by_cases h7 : op = 7
    · subst h7
      have := divide_same k 7 a b ha ha' hb1 hb2 (.inr rfl)
      simp only [word_Bin.j0, cotterref01_Bin.j0, if_true, BEq.rfl, this, true_and]
      unfold cotterref01_quotient.f
      repeat' (first | rfl | split)
    have e7 : (op == 7) = false := by simpa using h7
    simp only [e7, word_Bin.j0, cotterref01_Bin.j0, hu, word_flag.f, cotterref01_truth.f]
    have h63' : 0 ≤ Go.bits .and .i64 b 63 := h63.1
    simp only [h63', if_true]
    refine ⟨rfl, ?_⟩
    simp only [Bool.false_eq_true, if_false]
    repeat' (first | exact Option.isSome_some | refine some_ite ?_ ?_ | refine some_bind ?_ (fun _ => ?_))
  obtain ⟨h, hs⟩ := key
  obtain ⟨r, hr⟩ := Option.isSome_iff_exists.1 hs
  exact ⟨r, hr, h ▸ hr⟩

end Go.Proofs.Ytpahpebchjajfaa.Bin
