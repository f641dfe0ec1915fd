/-
  What the document's Put, All, Take, Bytes and Number (cotterref01) answer, said by the same plain functions as the program's. Conditions: numbers of 64 bits; lists and texts small enough.
-/

import Derived.Test.YthmheblilgegcaaDoorByt1
import Derived.Test.YthmheblilgegcaaDoorM9
import Derived.Test.YthmheblilgegcaaDoorM11
namespace Go.Proofs.YthmheblilgegcaaDoor.Word1
open Go.RowKit Go.Proofs.YthmheblilgegcaaDoor.M Go.Proofs.YthmheblilgegcaaDoor.Num Go.Proofs.YthmheblilgegcaaDoor.Seven Go.Proofs.YthmheblilgegcaaDoorW.PrintWords Go.Proofs.YthmheblilgegcaaDoorW.PrintLast

theorem sized_f (n : Int) : cotterref01_sized.f n = some (decide (n = 1 ∨ n = 4 ∨ n = 8)) := by
  unfold cotterref01_sized.f
  by_cases e1 : n = 1
  · simp [e1]
  · by_cases e4 : n = 4
    · simp [e4]
    · by_cases e8 : n = 8
      · simp [e8]
      · simp [e1, e4, e8]

theorem rbytes_l0 (n : Int) (s : Nat) (hs : s ≤ 8) : ∀ (d k i : Nat), s - i = d → i ≤ s → d < k →
    cotterref01_Bytes.l0 k s (leL n i) (n % 18446744073709551616 / 256 ^ i) i = some (strOfNums (leL n s), 0) := by
  intro d
  induction d with
  | zero =>
    intro k i hd hi hk
    obtain ⟨k, rfl⟩ : ∃ m, k = m + 1 := ⟨k - 1, by omega⟩
    obtain rfl : i = s := by omega
    simp only [cotterref01_Bytes.l0]
    rw [if_neg (by omega)]
  | succ d ih =>
    intro k i hd hi hk
    obtain ⟨k, rfl⟩ : ∃ m, k = m + 1 := ⟨k - 1, by omega⟩
    simp only [cotterref01_Bytes.l0]
    have hp := pow256_pos i
    have hq : 0 ≤ n % 18446744073709551616 / 256 ^ i := Int.ediv_nonneg (by omega) (by omega)
    have hq1 : n % 18446744073709551616 / 256 ^ i ≤ n % 18446744073709551616 := Int.ediv_le_self _ (by omega)
    have hb : n % 18446744073709551616 / 256 ^ i % 256 = n / 256 ^ i % 256 := by
      have h := leL_mod n (i + 1) 8 (by omega)
      have e8 : (256 : Int) ^ 8 = 18446744073709551616 := by decide
      rw [e8, leL_snoc, leL_snoc, leL_mod' n i (by omega)] at h
      simpa using h
    have hm : Int.tmod (n % 18446744073709551616 / 256 ^ i) 256 = n / 256 ^ i % 256 := by rw [Int.tmod_eq_emod_of_nonneg hq, hb]
    have hd2 : IntKind.u64.wrap (Int.tdiv (n % 18446744073709551616 / 256 ^ i) 256) = n % 18446744073709551616 / 256 ^ (i + 1) := by
      rw [Int.tdiv_eq_ediv_of_nonneg hq, wrap_u64_id (by omega) (by omega), Int.ediv_ediv_of_nonneg (by omega), Int.pow_succ]
    rw [if_pos (by omega), if_pos (by rw [leL_len]; omega), hm, hd2, show n / 256 ^ i % 256 % 256 = n / 256 ^ i % 256 by omega, ← leL_snoc, wrap64_id (by omega) (by omega), show ((i : Int) + 1) = ((i + 1 : Nat) : Int) by omega]
    exact ih k (i + 1) (by omega) (by omega) (by omega)

theorem rbytes_f (n size : Int) (h0 : -9223372036854775808 ≤ n) (h1 : n < 9223372036854775808) (k : Nat) (hk : 10 < k) : cotterref01_Bytes.f k n size = some (bytesR n size) := by
  obtain ⟨k, rfl⟩ : ∃ m, k = m + 1 := ⟨k - 1, by omega⟩
  have hj : ∀ s : Nat, s ≤ 8 → cotterref01_Bytes.j0 (k + 1) n s = some (strOfNums (leL n s), 0) := by
    intro s hs
    simp only [cotterref01_Bytes.j0]
    rw [wrap_u64]
    have h := rbytes_l0 n s hs s k 0 (by omega) (by omega) (by omega)
    simpa [leL] using h
  unfold cotterref01_Bytes.f bytesR
  rw [sized_f]
  simp only [Option.bind_some, decide_eq_true_eq]
  by_cases hz : size = 1 ∨ size = 4 ∨ size = 8
  · rw [if_pos hz, if_pos hz]
    rcases hz with rfl | rfl | rfl
    · have e1 : IntKind.u64.wrap (wrap64 (wrap64 (8 * 1) - 1)) = 7 := by decide +kernel
      have e2 : shl .i64 1 7 = 128 := by decide +kernel
      have e3 : wrap64 (-128) = -128 := by decide +kernel
      rw [if_pos (by omega), e1, e2, e3, if_pos (by omega)]
      by_cases ha : n < -128
      · rw [if_pos ha, if_neg (by unfold Fits; omega)]
      · rw [if_neg ha]
        by_cases hb : n ≥ 128
        · rw [if_pos hb, if_neg (by unfold Fits; omega)]
        · rw [if_neg hb, if_pos (by unfold Fits; omega)]
          exact hj 1 (by omega)
    · have e1 : IntKind.u64.wrap (wrap64 (wrap64 (8 * 4) - 1)) = 31 := by decide +kernel
      have e2 : shl .i64 1 31 = 2147483648 := by decide +kernel
      have e3 : wrap64 (-2147483648) = -2147483648 := by decide +kernel
      rw [if_pos (by omega), e1, e2, e3, if_pos (by omega)]
      by_cases ha : n < -2147483648
      · rw [if_pos ha, if_neg (by unfold Fits; omega)]
      · rw [if_neg ha]
        by_cases hb : n ≥ 2147483648
        · rw [if_pos hb, if_neg (by unfold Fits; omega)]
        · rw [if_neg hb, if_pos (by unfold Fits; omega)]
          exact hj 4 (by omega)
    · rw [if_neg (by omega), if_pos (by unfold Fits; omega)]
      exact hj 8 (by omega)
  · rw [if_neg hz, if_neg hz]

theorem rnumber_l0 (s : ByteArray) (hg : s.size = 1 ∨ s.size = 4 ∨ s.size = 8) : ∀ (d k : Nat), d ≤ s.size → d < k →
    cotterref01_Number.l0 k s (unleL ((bytesOf s).drop d)) ((d : Int) - 1) = some (numR s) := by
  intro d
  induction d with
  | zero =>
    intro k hi hk
    obtain ⟨k, rfl⟩ : ∃ m, k = m + 1 := ⟨k - 1, by omega⟩
    simp only [cotterref01_Number.l0]
    have hr := unleL_range _ (bytesOf_Bs s)
    rw [bytesOf_length] at hr
    have hlast : ∀ n : Nat, s.size = n + 1 → unleL (bytesOf s) = unleL ((bytesOf s).take n) + bt s n * 256 ^ n ∧ 0 ≤ unleL ((bytesOf s).take n) ∧ unleL ((bytesOf s).take n) < 256 ^ n := by
      intro n hn
      have hl : ((bytesOf s).take n).length = n := by rw [List.length_take, bytesOf_length]; omega
      have e := unleL_snoc ((bytesOf s).take n) (bt s n)
      rw [hl, ← take_snoc_bytes s n (by omega), List.take_of_length_le (by rw [bytesOf_length]; omega)] at e
      have hr2 := unleL_range _ ((bytesOf_Bs s).take n)
      rw [hl] at hr2
      exact ⟨e, hr2.1, hr2.2⟩
    rw [if_neg (by omega), List.drop_zero]
    unfold numR
    rcases hg with h | h | h
    · obtain ⟨g1, g2, g3⟩ := hlast 0 h
      have hbr := bt_range s (0 : Nat)
      rw [h] at hr
      have ew : wrap64 ((s.size : Int) - 1) = ((0 : Nat) : Int) := by rw [h]; decide +kernel
      have es : shl .u64 1 (IntKind.u64.wrap (wrap64 (8 * (s.size : Int)))) = 256 := by rw [h]; decide +kernel
      rw [if_pos (by omega), ew, if_pos (by omega), if_pos (by omega), if_pos h, es]
      by_cases hb : bt s (0 : Nat) ≥ 128
      · rw [if_pos hb, if_pos (by rw [wrap_u64]; omega), wrap_u64]
        unfold wrap64
        congr 2
        omega
      · rw [if_neg hb]
        unfold wrap64
        congr 2
        omega
    · obtain ⟨g1, g2, g3⟩ := hlast 3 h
      have hbr := bt_range s (3 : Nat)
      rw [h] at hr
      have ew : wrap64 ((s.size : Int) - 1) = ((3 : Nat) : Int) := by rw [h]; decide +kernel
      have es : shl .u64 1 (IntKind.u64.wrap (wrap64 (8 * (s.size : Int)))) = 4294967296 := by rw [h]; decide +kernel
      rw [if_pos (by omega), ew, if_pos (by omega), if_pos (by omega), if_neg (show ¬ s.size = 1 by omega), if_pos h, es]
      by_cases hb : bt s (3 : Nat) ≥ 128
      · rw [if_pos hb, if_pos (by rw [wrap_u64]; omega), wrap_u64]
        unfold wrap64
        congr 2
        omega
      · rw [if_neg hb]
        unfold wrap64
        congr 2
        omega
    · rw [if_neg (by omega), if_neg (by omega), if_neg (by omega), if_pos h]
  | succ d ih =>
    intro k hi hk
    obtain ⟨k, rfl⟩ : ∃ m, k = m + 1 := ⟨k - 1, by omega⟩
    simp only [cotterref01_Number.l0]
    have e1 : ((d + 1 : Nat) : Int) - 1 = (d : Int) := by omega
    have hbr := bt_range s d
    have hr := unleL_range _ ((bytesOf_Bs s).drop (d + 1))
    have hl : ((bytesOf s).drop (d + 1)).length = s.size - (d + 1) := by rw [List.length_drop, bytesOf_length]
    have h7 : (256 : Int) ^ (s.size - (d + 1)) ≤ 256 ^ 7 := by
      have h1 : 256 ^ (s.size - (d + 1)) ≤ 256 ^ 7 := Nat.pow_le_pow_right (by decide) (by omega)
      have h2 : ((256 ^ (s.size - (d + 1)) : Nat) : Int) = (256 : Int) ^ (s.size - (d + 1)) := by simp
      have h3 : ((256 ^ 7 : Nat) : Int) = (256 : Int) ^ 7 := by simp
      omega
    have e7 : (256 : Int) ^ 7 = 72057594037927936 := by decide
    rw [hl] at hr
    rw [e7] at h7
    rw [e1, if_pos (by omega), if_pos (by omega), if_pos (by omega), wrap64_id (by omega) (by omega)]
    have e2 : IntKind.u64.wrap (IntKind.u64.wrap (unleL ((bytesOf s).drop (d + 1)) * 256) + IntKind.u64.wrap (bt s d)) = unleL ((bytesOf s).drop d) := by
      rw [bt_drop s d (by omega), unleL, wrap_u64, wrap_u64, wrap_u64]
      omega
    rw [e2]
    exact ih k (by omega) (by omega)

theorem rnumber_f (s : ByteArray) (hs : s.size ≤ 140737488351232) (k : Nat) (hk : 9 < k) : cotterref01_Number.f k s = some (numR s) := by
  unfold cotterref01_Number.f
  rw [sized_f]
  simp only [Option.bind_some, decide_eq_true_eq]
  by_cases hg : s.size = 1 ∨ s.size = 4 ∨ s.size = 8
  · rw [if_pos (by omega), wrap64_id (by omega) (by omega)]
    have h := rnumber_l0 s hg s.size k (by omega) (by omega)
    rw [List.drop_eq_nil_of_le (by rw [bytesOf_length]; exact Nat.le_refl _)] at h
    exact h
  · rw [if_neg (by omega)]
    unfold numR
    rw [if_neg (by omega), if_neg (by omega), if_neg (by omega)]

end Go.Proofs.YthmheblilgegcaaDoor.Word1
