/-
  What word.Bytes and word.Number answer, said by plain functions. Conditions: a number of 64 bits with a sign; a text of at most 2^47 bytes.
-/
import Derived.Test.YthmheblilgegcaaDoorSeven
import Derived.Test.YthmheblilgegcaaDoorM3
import Derived.Test.YthmheblilgegcaaDoorM5
namespace Go.Proofs.YthmheblilgegcaaDoor.Word1
open Go.RowKit Go.Proofs.YthmheblilgegcaaDoor.M Go.Proofs.YthmheblilgegcaaDoor.Num Go.Proofs.YthmheblilgegcaaDoor.Seven Go.Proofs.YthmheblilgegcaaDoorW.PrintWords Go.Proofs.YthmheblilgegcaaDoorW.PrintLast

def Fits (n size : Int) : Prop := size = 1 ∧ -128 ≤ n ∧ n < 128 ∨ size = 4 ∧ -2147483648 ≤ n ∧ n < 2147483648 ∨ size = 8
instance (n size : Int) : Decidable (Fits n size) := by unfold Fits; exact inferInstance
/-- What Bytes answers. -/
def bytesR (n size : Int) : ByteArray × Int :=
  if size = 1 ∨ size = 4 ∨ size = 8 then if Fits n size then (strOfNums (leL n size.toNat), 0) else (⟨#[]⟩, 7) else (⟨#[]⟩, 1)

theorem shr_bytes (n : Int) (i : Nat) (h : i ≤ 8) : shr .i64 n (8 * (i : Int)) = n / 256 ^ i := by
  unfold shr
  have e : (8 * (i : Int)).toNat = 8 * i := by omega
  have hm : min (8 * i) IntKind.i64.bits = 8 * i := Nat.min_eq_left (by have : IntKind.i64.bits = 64 := rfl; omega)
  rw [e, hm, Int.pow_mul]
  rfl

theorem bytes_l0 (n : Int) (s : Nat) (hs : s ≤ 8) : ∀ (d k i : Nat), s - i = d → i ≤ s → d < k →
    word_Bytes.l0 k n (leL n i ++ List.replicate (s - i) 0) (s : Int) i = some (strOfNums (leL n s), 0) := by
  intro d
  induction d with
  | zero =>
    intro k i hd hi hk
    obtain ⟨k, rfl⟩ : ∃ m, k = m + 1 := ⟨k - 1, by omega⟩
    obtain rfl : i = s := by omega
    simp only [word_Bytes.l0]
    rw [if_neg (by omega), Nat.sub_self]
    simp
  | succ d ih =>
    intro k i hd hi hk
    obtain ⟨k, rfl⟩ : ∃ m, k = m + 1 := ⟨k - 1, by omega⟩
    simp only [word_Bytes.l0]
    have hw : wrap64 (8 * (i : Int)) = 8 * i := wrap64_id (by omega) (by omega)
    have hl : (leL n i ++ List.replicate (s - i) 0).length = s := by rw [List.length_append, leL_len, List.length_replicate]; omega
    rw [hw, hl, if_pos (by omega), if_pos (by omega), if_pos (by omega), if_pos (by omega), shr_bytes n i (by omega), wrap64_id (by omega) (by omega), show ((i : Int) + 1) = ((i + 1 : Nat) : Int) by omega]
    have e : (leL n i ++ List.replicate (s - i) 0).set (i : Int).toNat (n / 256 ^ i % 256) = leL n (i + 1) ++ List.replicate (s - (i + 1)) 0 := by
      rw [Int.toNat_natCast, List.set_append_right _ _ (by rw [leL_len]; exact Nat.le_refl _), leL_len, Nat.sub_self, show s - i = (s - (i + 1)) + 1 by omega, List.replicate_succ, List.set_cons_zero, leL_snoc]
      simp
    rw [e]
    exact ih k (i + 1) (by omega) (by omega) (by omega)

theorem bytes_f (n size : Int) (h0 : -9223372036854775808 ≤ n) (h1 : n < 9223372036854775808) (k : Nat) (hk : 9 < k) : word_Bytes.f k n size = some (bytesR n size) := by
  obtain ⟨k, rfl⟩ : ∃ m, k = m + 1 := ⟨k - 1, by omega⟩
  have hj : ∀ s : Nat, s ≤ 8 → word_Bytes.j0 (k + 1) n s = some (strOfNums (leL n s), 0) := by
    intro s hs
    simp only [word_Bytes.j0]
    rw [if_pos (by omega), if_pos (by omega)]
    simp only [Option.bind_some, List.length_replicate, Int.toNat_natCast]
    have h := bytes_l0 n s hs s k 0 (by omega) (by omega) (by omega)
    simpa [leL] using h
  unfold word_Bytes.f bytesR
  by_cases e1 : size = 1
  · subst e1
    have := hj 1 (by omega)
    by_cases hf : -128 ≤ n ∧ n < 128
    · rw [if_pos rfl, if_pos (by rw [wrap_i8]; unfold wrap64; omega), if_pos (by omega), if_pos (by unfold Fits; omega)]
      exact this
    · rw [if_pos rfl, if_neg (by rw [wrap_i8]; unfold wrap64; omega), if_pos (by omega), if_neg (by unfold Fits; omega)]
  · rw [if_neg e1]
    by_cases e4 : size = 4
    · subst e4
      have := hj 4 (by omega)
      by_cases hf : -2147483648 ≤ n ∧ n < 2147483648
      · rw [if_pos rfl, if_pos (by unfold wrap64 wrap32; omega), if_pos (by omega), if_pos (by unfold Fits; omega)]
        exact this
      · rw [if_pos rfl, if_neg (by unfold wrap64 wrap32; omega), if_pos (by omega), if_neg (by unfold Fits; omega)]
    · rw [if_neg e4]
      by_cases e8 : size = 8
      · subst e8
        rw [if_pos rfl, if_pos (by omega), if_pos (by unfold Fits; omega)]
        exact hj 8 (by omega)
      · rw [if_neg e8, if_neg (by omega)]

/-- What Number answers. -/
def numR (s : ByteArray) : Int × Int :=
  if s.size = 1 then ((unleL (bytesOf s) + 128) % 256 - 128, 0)
  else if s.size = 4 then ((unleL (bytesOf s) + 2147483648) % 4294967296 - 2147483648, 0)
  else if s.size = 8 then (wrap64 (unleL (bytesOf s)), 0)
  else (0, 1)

theorem take_snoc_bytes (s : ByteArray) (i : Nat) (h : i < s.size) : (bytesOf s).take (i + 1) = (bytesOf s).take i ++ [bt s i] := by
  have hl : i < (bytesOf s).length := by rw [bytesOf_length]; exact h
  rw [List.take_succ_eq_append_getElem hl, ← rd_bytesOf]
  unfold rd
  rw [Int.toNat_natCast, List.getD_eq_getElem?_getD, List.getElem?_eq_getElem hl]
  rfl

theorem shl_bytes (b : Int) (i : Nat) (h0 : 0 ≤ b) (h1 : b < 256) (h : i ≤ 7) : shl .i64 (wrap64 b) (wrap64 (8 * (i : Int))) = wrap64 (b * 256 ^ i) := by
  unfold shl
  have hw : wrap64 (8 * (i : Int)) = 8 * i := wrap64_id (by omega) (by omega)
  have e : (8 * (i : Int)).toNat = 8 * i := by omega
  have hm : min (8 * i) IntKind.i64.bits = 8 * i := Nat.min_eq_left (by have : IntKind.i64.bits = 64 := rfl; omega)
  rw [hw, e, hm, Int.pow_mul, wrap_i64, wrap64_id (n := b) (by omega) (by omega)]
  rfl

theorem number_bad (s : ByteArray) (hs : s.size ≤ 140737488351232) (hb : ¬ (s.size = 1 ∨ s.size = 4 ∨ s.size = 8)) : ∀ (d k i : Nat) (x : Int), s.size - i = d → i ≤ s.size → d < k →
    word_Number.l0 k s x (s.size : Int) i = some (0, 1) := by
  intro d
  induction d with
  | zero =>
    intro k i x hd hi hk
    obtain ⟨k, rfl⟩ : ∃ m, k = m + 1 := ⟨k - 1, by omega⟩
    simp only [word_Number.l0]
    rw [if_neg (by omega), if_neg (by omega), if_neg (by omega), if_neg (by omega)]
  | succ d ih =>
    intro k i x hd hi hk
    obtain ⟨k, rfl⟩ : ∃ m, k = m + 1 := ⟨k - 1, by omega⟩
    simp only [word_Number.l0]
    have hw : wrap64 (8 * (i : Int)) = 8 * i := wrap64_id (by omega) (by omega)
    rw [if_pos (by omega), if_pos (by omega), if_pos (by omega), if_pos (by rw [hw]; omega), wrap64_id (n := (i : Int) + 1) (by omega) (by omega), show ((i : Int) + 1) = ((i + 1 : Nat) : Int) by omega]
    exact ih k (i + 1) _ (by omega) (by omega) (by omega)

theorem number_l0 (s : ByteArray) (hs : s.size ≤ 8) (hg : s.size = 1 ∨ s.size = 4 ∨ s.size = 8) : ∀ (d k i : Nat), s.size - i = d → i ≤ s.size → d < k →
    word_Number.l0 k s (wrap64 (unleL ((bytesOf s).take i))) (s.size : Int) i = some (numR s) := by
  intro d
  induction d with
  | zero =>
    intro k i hd hi hk
    obtain ⟨k, rfl⟩ : ∃ m, k = m + 1 := ⟨k - 1, by omega⟩
    obtain rfl : i = s.size := by omega
    have hr := unleL_range _ (bytesOf_Bs s)
    rw [bytesOf_length] at hr
    simp only [word_Number.l0]
    rw [if_neg (by omega), List.take_of_length_le (by rw [bytesOf_length]; exact Nat.le_refl _)]
    unfold numR
    rcases hg with h | h | h
    · rw [if_pos (by omega), if_pos h, wrap_i8]
      rw [h] at hr
      unfold wrap64
      congr 2
      omega
    · rw [if_neg (by omega), if_pos (by omega), if_neg (by omega), if_pos h]
      rw [h] at hr
      unfold wrap32 wrap64
      congr 2
      omega
    · rw [if_neg (by omega), if_neg (by omega), if_pos (by omega), if_neg (by omega), if_neg (by omega), if_pos h]
  | succ d ih =>
    intro k i hd hi hk
    obtain ⟨k, rfl⟩ : ∃ m, k = m + 1 := ⟨k - 1, by omega⟩
    simp only [word_Number.l0]
    have hw : wrap64 (8 * (i : Int)) = 8 * i := wrap64_id (by omega) (by omega)
    have hbr := bt_range s i
    have hr := unleL_range _ ((bytesOf_Bs s).take i)
    have hl : ((bytesOf s).take i).length = i := by rw [List.length_take, bytesOf_length]; omega
    rw [hl] at hr
    rw [if_pos (by omega), if_pos (by omega), if_pos (by omega), if_pos (by rw [hw]; omega), wrap64_id (n := (i : Int) + 1) (by omega) (by omega), show ((i : Int) + 1) = ((i + 1 : Nat) : Int) by omega,
      shl_bytes _ i (by omega) (by omega) (by omega), or_join _ _ i (by omega) hr.1 hr.2 (by omega) (by omega)]
    have e := unleL_snoc ((bytesOf s).take i) (bt s i)
    rw [hl, ← take_snoc_bytes s i (by omega)] at e
    rw [← e]
    exact ih k (i + 1) (by omega) (by omega) (by omega)

theorem number_f (s : ByteArray) (hs : s.size ≤ 140737488351232) (k : Nat) (hk : s.size < k) : word_Number.f k s = some (numR s) := by
  unfold word_Number.f
  by_cases hg : s.size = 1 ∨ s.size = 4 ∨ s.size = 8
  · have h := number_l0 s (by omega) hg s.size k 0 (by omega) (by omega) hk
    simpa [unleL, wrap64] using h
  · have h := number_bad s hs hg s.size k 0 0 (by omega) (by omega) hk
    unfold numR
    rw [if_neg (by omega), if_neg (by omega), if_neg (by omega)]
    exact h

/-- Number turns Bytes back. -/
theorem num_bytes (n size : Int) (h0 : -9223372036854775808 ≤ n) (h1 : n < 9223372036854775808) (h : Fits n size) : numR (bytesR n size).1 = (n, 0) := by
  unfold bytesR
  have hz : size = 1 ∨ size = 4 ∨ size = 8 := by unfold Fits at h; omega
  rw [if_pos hz, if_pos h]
  simp only [numR, strOfNums_size, leL_len]
  rw [bytesOf_str (leL_bs _ _), unleL_leL]
  rcases h with ⟨rfl, h⟩ | ⟨rfl, h⟩ | rfl
  · rw [if_pos (by omega)]
    have e : (1 : Int).toNat = 1 := rfl
    rw [e]
    congr 1
    omega
  · rw [if_neg (by omega), if_pos (by omega)]
    have e : (4 : Int).toNat = 4 := rfl
    rw [e]
    congr 1
    omega
  · rw [if_neg (by omega), if_neg (by omega), if_pos (by omega)]
    have e : (8 : Int).toNat = 8 := rfl
    rw [e]
    unfold wrap64
    congr 1
    omega

end Go.Proofs.YthmheblilgegcaaDoor.Word1
