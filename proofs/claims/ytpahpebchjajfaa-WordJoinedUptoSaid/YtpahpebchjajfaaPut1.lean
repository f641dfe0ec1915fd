/-
  What word.put, Put, All and Take answer, said by plain functions on lists of bytes. Conditions: numbers of 64 bits without a sign; lists small enough.
-/
import Derived.Test.YtpahpebchjajfaaSeven
import Derived.Test.YtpahpebchjajfaaM3
import Derived.Test.YtpahpebchjajfaaM4
import Derived.Test.YtpahpebchjajfaaM11
namespace Go.Proofs.Ytpahpebchjajfaa.Word1
open Go.RowKit Go.Proofs.Ytpahpebchjajfaa.M Go.Proofs.Ytpahpebchjajfaa.Num Go.Proofs.Ytpahpebchjajfaa.Seven Go.Proofs.YtpahpebchjajfaaW.PrintWords Go.Proofs.YtpahpebchjajfaaW.PrintLast

theorem or128 (v : Nat) : bits .or .u8 ((v : Int) % 256) 128 = ((v % 128 + 128 : Nat) : Int) := by
  have key : ∀ w : Fin 256, bits .or .u8 (w.val : Int) 128 = ((w.val % 128 + 128 : Nat) : Int) := by decide +kernel
  have h := key ⟨v % 256, Nat.mod_lt _ (by decide)⟩
  simp only at h
  have e : (((v % 256 : Nat)) : Int) = (v : Int) % 256 := by omega
  rw [e] at h
  rw [h]
  congr 1
  omega

theorem put_l0 : ∀ (n k u : Nat) (x : List Int), u < 128 ^ (n + 1) → x.length + n < 140737488355328 → n < k → word_put.l0 k x u = some (x ++ putL u) := by
  intro n
  induction n with
  | zero =>
    intro k u x hu hx hk
    obtain ⟨k, rfl⟩ : ∃ m, k = m + 1 := ⟨k - 1, by omega⟩
    simp only [word_put.l0]
    rw [if_neg (by omega), if_pos (by omega), putL_small (by omega)]
    congr 3
    omega
  | succ n ih =>
    intro k u x hu hx hk
    obtain ⟨k, rfl⟩ : ∃ m, k = m + 1 := ⟨k - 1, by omega⟩
    simp only [word_put.l0]
    by_cases h : u < 128
    · rw [if_neg (by omega), if_pos (by omega), putL_small h]
      congr 3
      omega
    · rw [if_pos (by omega), if_pos (by omega)]
      have h2 : u / 128 < 128 ^ (n + 1) := by rw [Nat.div_lt_iff_lt_mul (by decide)]; rw [Nat.pow_succ] at hu; exact hu
      have e : (u : Int) / 128 = ((u / 128 : Nat) : Int) := by omega
      rw [e, ih k (u / 128) _ h2 (by simp; omega) (by omega), putL_great h, or128]
      simp

theorem put_f {k u : Nat} {x : List Int} (hu : u < 18446744073709551616) (hx : x.length + 9 < 140737488355328) (hk : 9 < k) : word_put.f k x u = some (x ++ putL u) := by
  unfold word_put.f
  exact put_l0 9 k u x (by omega) hx hk

theorem Put_f {k u : Nat} (hu : u < 18446744073709551616) (hk : 9 < k) : word_Put.f k u = some (strOfNums (putL u)) := by
  unfold word_Put.f
  rw [put_f hu (by simp) hk]
  rfl

/-- Several numbers, one behind the other. -/
def allL (l : List Int) : List Int := l.flatMap fun u => putL u.toNat
theorem allL_append (a b : List Int) : allL (a ++ b) = allL a ++ allL b := by simp [allL]
theorem allL_bs (l : List Int) : Bs (allL l) := by
  intro x hx
  obtain ⟨u, _, hu⟩ := List.mem_flatMap.1 hx
  exact putL_bs _ x hu
def Us (l : List Int) : Prop := ∀ x ∈ l, 0 ≤ x ∧ x < 18446744073709551616
theorem allL_len (l : List Int) (h : Us l) : (allL l).length ≤ 10 * l.length := by
  induction l with
  | nil => simp [allL]
  | cons u r ih =>
    have h1 := h u (by simp)
    have h2 := ih (fun x hx => h x (List.mem_cons_of_mem _ hx))
    have h3 := putL_ten (u := u.toNat) (by omega)
    have e : allL (u :: r) = putL u.toNat ++ allL r := rfl
    rw [e, List.length_append, List.length_cons]
    omega
theorem Us.drop {l : List Int} (h : Us l) (n : Nat) : Us (l.drop n) := fun x hx => h x (List.mem_of_mem_drop hx)

theorem all_l0 (l : List Int) (hl : Us l) (hm : l.length < 1000000000000000) : ∀ (d k i : Nat) (x : List Int), l.length - i = d → i ≤ l.length → x.length + 10 * d < 140737488355328 → d + 10 < k →
    word_All.l0 k x l (l.length : Int) i = some (strOfNums (x ++ allL (l.drop i))) := by
  intro d
  induction d with
  | zero =>
    intro k i x hd hi hx hk
    obtain ⟨k, rfl⟩ : ∃ m, k = m + 1 := ⟨k - 1, by omega⟩
    simp only [word_All.l0]
    rw [if_neg (by omega), List.drop_eq_nil_of_le (by omega)]
    simp [allL]
  | succ d ih =>
    intro k i x hd hi hx hk
    obtain ⟨k, rfl⟩ : ∃ m, k = m + 1 := ⟨k - 1, by omega⟩
    simp only [word_All.l0]
    have hlt : i < l.length := by omega
    rw [if_pos (by omega), if_pos (by omega), if_pos (by omega)]
    have hr : rd l (i : Int) = l[i] := by
      unfold rd
      rw [Int.toNat_natCast, List.getD_eq_getElem?_getD, List.getElem?_eq_getElem hlt]
      rfl
    have hu := hl l[i] (List.getElem_mem hlt)
    have e : rd l (i : Int) = ((l[i].toNat : Nat) : Int) := by rw [hr]; omega
    rw [e, put_f (by omega) (by omega) (by omega)]
    simp only [Option.bind_some]
    rw [wrap64_id (by omega) (by omega), show ((i : Int) + 1) = ((i + 1 : Nat) : Int) by omega]
    have h10 := putL_ten (u := l[i].toNat) (by omega)
    rw [ih k (i + 1) _ (by omega) (by omega) (by rw [List.length_append]; omega) (by omega), List.drop_eq_getElem_cons hlt]
    simp only [allL, List.flatMap_cons, List.append_assoc]

theorem all_f (l : List Int) (hl : Us l) (hm : 10 * l.length < 140737488355328) (k : Nat) (hk : l.length + 10 < k) : word_All.f k l = some (strOfNums (allL l)) := by
  unfold word_All.f
  have h := all_l0 l hl (by omega) l.length k 0 [] (by omega) (by omega) (by simp; omega) hk
  rw [List.nil_append, List.drop_zero] at h
  exact h

/-- What Take answers: by the bytes from the place on. -/
def takeR (s : ByteArray) (at_ : Int) : Int × Int × Int :=
  if at_ < 0 ∨ at_ > s.size then (0, 0, 1) else match takeL ((bytesOf s).drop at_.toNat) 0 with
  | none => (0, 0, 9)
  | some (v, n) => (v, at_ + n, 0)

theorem and127 (b : Int) (h0 : 0 ≤ b) (h1 : b < 256) : IntKind.u64.wrap (bits .and .u8 b 127) = b % 128 := by
  have h := bits_mask .u8 8 (by decide) wraps_u8 7 (by decide) b h0 (by omega)
  have e : (2 : Int) ^ 7 - 1 = 127 := by decide
  have e2 : (2 : Int) ^ 7 = 128 := by decide
  rw [e, e2] at h
  rw [h, wrap_u64]
  omega

theorem p2 (n : Nat) : (0 : Int) < 2 ^ n := by
  have h2 : ((2 ^ n : Nat) : Int) = (2 : Int) ^ n := by simp
  have h3 := Nat.two_pow_pos n
  omega
theorem e64 : (2 : Int) ^ 64 = 18446744073709551616 := by decide

theorem shl_u64_small (x y : Int) (i : Nat) (hy : y = 7 * i) (hi : i ≤ 9) (h0 : 0 ≤ x) (h1 : x * 2 ^ (7 * i) < 18446744073709551616) : shl .u64 x y = x * 2 ^ (7 * i) := by
  subst hy
  unfold shl
  have e : (7 * (i : Int)).toNat = 7 * i := by omega
  have hm : min (7 * i) IntKind.u64.bits = 7 * i := Nat.min_eq_left (by have : IntKind.u64.bits = 64 := rfl; omega)
  rw [e, hm, wrap_u64]
  have hp : (0 : Int) ≤ 2 ^ (7 * i) := Int.le_of_lt (p2 _)
  have := Int.mul_nonneg h0 hp
  omega

theorem or_u64 (u c : Int) (i : Nat) (hu : 0 ≤ u) (hu1 : u < 2 ^ (7 * i)) (hc : 0 ≤ c) (hc1 : c * 2 ^ (7 * i) < 18446744073709551616) (hs : u + c * 2 ^ (7 * i) < 18446744073709551616) :
    bits .or .u64 u (c * 2 ^ (7 * i)) = u + c * 2 ^ (7 * i) := by
  have hp : (0 : Int) ≤ 2 ^ (7 * i) := Int.le_of_lt (p2 _)
  have hm := Int.mul_nonneg hc hp
  rw [bits_or_comm]
  have h := bits_join .u64 64 (by decide) (fun n h0 h1 => wrap_u64_id h0 (by rw [e64] at h1; exact h1)) (7 * i) (c * 2 ^ (7 * i)) u hm (Int.mul_emod_left _ _) (by rw [e64]; exact hc1) hu hu1 (by rw [e64]; omega)
  rw [h]
  omega

theorem take_fits {b : Int} {i : Nat} {u : Int} (h0 : 0 ≤ b) (h1 : b < 256) (hi : i ≤ 9) (h9 : i = 9 → b ≤ 1) (hu : 0 ≤ u) (hu1 : u < 2 ^ (7 * i)) :
    b % 128 * 2 ^ (7 * i) < 18446744073709551616 ∧ u + b % 128 * 2 ^ (7 * i) < 18446744073709551616 ∧ (i ≤ 8 → u + b % 128 * 2 ^ (7 * i) < 2 ^ (7 * (i + 1))) ∧ 0 ≤ u + b % 128 * 2 ^ (7 * i) := by
  have hp : (0 : Int) < 2 ^ (7 * i) := by
    have h2 : ((2 ^ (7 * i) : Nat) : Int) = (2 : Int) ^ (7 * i) := by simp
    have h3 := Nat.two_pow_pos (7 * i)
    omega
  have e : (2 : Int) ^ (7 * (i + 1)) = 128 * 2 ^ (7 * i) := by rw [Nat.mul_add, Int.pow_add]; omega
  have hm := Int.mul_nonneg (show 0 ≤ b % 128 by omega) (Int.le_of_lt hp)
  have g := Int.mul_le_mul_of_nonneg_right (show b % 128 ≤ 127 by omega) (Int.le_of_lt hp)
  by_cases hi9 : i = 9
  · subst hi9
    have e63 : (2 : Int) ^ (7 * 9) = 9223372036854775808 := by decide
    have := h9 rfl
    rw [e63] at *
    refine ⟨by omega, by omega, fun h => by omega, by omega⟩
  · have hp8 : (2 : Int) ^ (7 * i) ≤ 72057594037927936 := by
      have h1 : 2 ^ (7 * i) ≤ 2 ^ 56 := Nat.pow_le_pow_right (by decide) (by omega)
      have h2 : ((2 ^ (7 * i) : Nat) : Int) = (2 : Int) ^ (7 * i) := by simp
      have h3 : (2 : Nat) ^ 56 = 72057594037927936 := by decide
      rw [h3] at h1
      omega
    rw [e]
    generalize (2 : Int) ^ (7 * i) = P at *
    generalize b % 128 * P = m at *
    refine ⟨by omega, by omega, fun _ => by omega, by omega⟩

/-- What a loop over the groups comes to, from the group number i on, with u so far. -/
def restR (s : ByteArray) (at_ i : Nat) (u : Int) : Int × Int × Int :=
  match takeL ((bytesOf s).drop (at_ + i)) i with
  | none => (0, 0, 9)
  | some (v, n) => (u + v * 2 ^ (7 * i), ((at_ + i + n : Nat) : Int), 0)

theorem restR_end {s : ByteArray} {at_ i : Nat} {u : Int} (h : ¬ at_ + i < s.size) : restR s at_ i u = (0, 0, 9) := by
  unfold restR
  rw [List.drop_eq_nil_of_le (by rw [bytesOf_length]; omega)]
  rfl
theorem restR_bad {s : ByteArray} {at_ i : Nat} {u : Int} (hlt : at_ + i < s.size) (h : i > 9 ∨ (i = 9 ∧ bt s (at_ + i : Nat) > 1) ∨ (i > 0 ∧ bt s (at_ + i : Nat) = 0)) : restR s at_ i u = (0, 0, 9) := by
  unfold restR
  rw [bt_drop s _ hlt]
  simp only [takeL]
  rw [if_pos h]
theorem restR_last {s : ByteArray} {at_ i : Nat} {u : Int} (hlt : at_ + i < s.size) (h : ¬ (i > 9 ∨ (i = 9 ∧ bt s (at_ + i : Nat) > 1) ∨ (i > 0 ∧ bt s (at_ + i : Nat) = 0))) (hb : bt s (at_ + i : Nat) < 128) :
    restR s at_ i u = (u + bt s (at_ + i : Nat) * 2 ^ (7 * i), ((at_ + i + 1 : Nat) : Int), 0) := by
  unfold restR
  rw [bt_drop s _ hlt]
  simp only [takeL]
  rw [if_neg h, if_pos hb]
theorem restR_step {s : ByteArray} {at_ i : Nat} {u : Int} (hlt : at_ + i < s.size) (h : ¬ (i > 9 ∨ (i = 9 ∧ bt s (at_ + i : Nat) > 1) ∨ (i > 0 ∧ bt s (at_ + i : Nat) = 0))) (hb : ¬ bt s (at_ + i : Nat) < 128) :
    restR s at_ i u = restR s at_ (i + 1) (u + (bt s (at_ + i : Nat) - 128) * 2 ^ (7 * i)) := by
  unfold restR
  rw [bt_drop s _ hlt]
  simp only [takeL]
  rw [if_neg h, if_neg hb, show at_ + (i + 1) = at_ + i + 1 by omega]
  cases takeL ((bytesOf s).drop (at_ + i + 1)) (i + 1) with
  | none => rfl
  | some p =>
    simp only [Option.map_some]
    have e : (2 : Int) ^ (7 * (i + 1)) = 128 * 2 ^ (7 * i) := by rw [Nat.mul_add, Int.pow_add]; omega
    rw [e, Int.add_mul, Int.add_assoc, Int.mul_assoc 128, Int.mul_left_comm 128 p.1, show at_ + i + (p.2 + 1) = at_ + i + 1 + p.2 by omega]

theorem take_l0 (s : ByteArray) (at_ : Nat) (hs : s.size ≤ 140737488351232) (hat : at_ ≤ s.size) : ∀ (d k i : Nat) (u : Int), 10 - i = d → i ≤ 10 → 0 ≤ u → (i ≤ 9 → u < 2 ^ (7 * i)) → 2 * d + 2 < k →
    word_Take.l0 k s at_ u i = some (restR s at_ i u) := by
  intro d
  induction d with
  | zero =>
    intro k i u hd hi hu hu1 hk
    obtain ⟨k, rfl⟩ : ∃ m, k = m + 2 := ⟨k - 2, by omega⟩
    obtain rfl : i = 10 := by omega
    simp only [word_Take.l0]
    rw [wrap64_id (by omega) (by omega)]
    by_cases hlt : at_ + 10 < s.size
    · rw [if_pos (by omega), if_pos (by omega), if_pos (by omega), restR_bad hlt (.inl (by omega))]
      simp [word_Take.j2]
    · rw [if_neg (by omega), restR_end hlt]
  | succ d ih =>
    intro k i u hd hi hu hu1 hk
    obtain ⟨k, rfl⟩ : ∃ m, k = m + 2 := ⟨k - 2, by omega⟩
    simp only [word_Take.l0]
    have ew : wrap64 ((at_ : Int) + i) = ((at_ + i : Nat) : Int) := by rw [wrap64_id (by omega) (by omega)]; omega
    rw [ew]
    by_cases hlt : at_ + i < s.size
    · rw [if_pos (by omega), if_pos (by omega), if_neg (by omega)]
      have hbr := bt_range s (at_ + i : Nat)
      have hb7 : wrap64 (7 * (i : Int)) = 7 * i := wrap64_id (by omega) (by omega)
      have hu9 := hu1 (by omega)
      -- the one form in which all ways meet
      have good : ∀ (c : Bool), (c = true ↔ (i = 9 ∧ bt s (at_ + i : Nat) > 1) ∨ (i > 0 ∧ bt s (at_ + i : Nat) = 0)) → word_Take.j2 (k + 1) s at_ u i (bt s (at_ + i : Nat)) c = some (restR s at_ i u) := by
        intro c hc
        simp only [word_Take.j2, hb7]
        by_cases hbad : c = true
        · rw [if_pos hbad, restR_bad hlt (.inr (hc.1 hbad))]
        · have hno : ¬ (i > 9 ∨ (i = 9 ∧ bt s (at_ + i : Nat) > 1) ∨ (i > 0 ∧ bt s (at_ + i : Nat) = 0)) := by
            intro h
            rcases h with h | h
            · omega
            · exact hbad (hc.2 h)
          obtain ⟨f1, f2, f3, f4⟩ := take_fits (b := bt s (at_ + i : Nat)) (i := i) (u := u) (by omega) (by omega) (by omega) (by intro h; omega) hu hu9
          rw [if_neg hbad, if_pos (by omega), and127 _ (by omega) (by omega), shl_u64_small _ _ i rfl (by omega) (by omega) f1, or_u64 u _ i hu hu9 (by omega) f1 f2, ew]
          by_cases hl : bt s (at_ + i : Nat) < 128
          · rw [if_pos hl, restR_last hlt hno hl, wrap64_id (by omega) (by omega), show bt s (at_ + i : Nat) % 128 = bt s (at_ + i : Nat) by omega]
            congr 3
          · rw [if_neg hl, restR_step hlt hno hl, wrap64_id (by omega) (by omega), show ((i : Int) + 1) = ((i + 1 : Nat) : Int) by omega, show bt s (at_ + i : Nat) % 128 = bt s (at_ + i : Nat) - 128 by omega]
            rw [show bt s (at_ + i : Nat) % 128 = bt s (at_ + i : Nat) - 128 by omega] at f3 f4
            exact ih k (i + 1) _ (by omega) (by omega) f4 (fun h => f3 (by omega)) (by omega)
      by_cases h9 : i = 9
      · rw [if_pos (by omega)]
        by_cases hb1 : bt s (at_ + i : Nat) > 1
        · rw [if_pos hb1]; exact good true (by simp only [true_iff]; omega)
        · rw [if_neg hb1, if_pos (by omega)]; exact good _ (by simp only [beq_iff_eq]; omega)
      · rw [if_neg (by omega)]
        by_cases h0 : i > 0
        · rw [if_pos (by omega)]; exact good _ (by simp only [beq_iff_eq]; omega)
        · rw [if_neg (by omega)]; exact good false (by simp only [Bool.false_eq_true, false_iff]; omega)
    · rw [if_neg (by omega), restR_end hlt]

theorem restR_zero (s : ByteArray) (at_ : Nat) (h : at_ ≤ s.size) : restR s at_ 0 0 = takeR s at_ := by
  unfold restR takeR
  rw [if_neg (by omega), Nat.add_zero, Int.toNat_natCast]
  cases takeL ((bytesOf s).drop at_) 0 with
  | none => rfl
  | some p => simp

theorem take_f (s : ByteArray) (at_ : Int) (hs : s.size ≤ 140737488351232) (k : Nat) (hk : 24 < k) : word_Take.f k s at_ = some (takeR s at_) := by
  obtain ⟨k, rfl⟩ : ∃ m, k = m + 1 := ⟨k - 1, by omega⟩
  unfold word_Take.f
  by_cases h0 : at_ < 0
  · rw [if_pos h0]
    simp [word_Take.j0, takeR, h0]
  · rw [if_neg h0]
    by_cases h1 : at_ > (s.size : Int)
    · have e : decide (at_ > (s.size : Int)) = true := decide_eq_true h1
      rw [e]
      unfold takeR
      rw [if_pos (.inr h1)]
      simp [word_Take.j0]
    · have e : decide (at_ > (s.size : Int)) = false := decide_eq_false h1
      rw [e]
      simp only [word_Take.j0, Bool.false_eq_true, if_false]
      obtain ⟨a, rfl⟩ := Int.eq_ofNat_of_zero_le (show 0 ≤ at_ by omega)
      rw [← restR_zero s a (by omega)]
      exact take_l0 s a hs (by omega) 10 k 0 0 (by omega) (by omega) (by omega) (by simp) (by omega)

end Go.Proofs.Ytpahpebchjajfaa.Word1
