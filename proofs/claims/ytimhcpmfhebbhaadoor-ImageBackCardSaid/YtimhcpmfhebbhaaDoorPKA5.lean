/-
  Texts of the proofs of ImageBack, cut to what the proofs reach and packed by a program of this session (wip/packs.py). Each part begins with what it says; conditions: those told there.
-/
import Derived.Test.YtimhcpmfhebbhaaDoorPKA4
-- Written by a program of this session (wip/ownprint.py) over the translation. Lean checks it.
namespace Go.Proofs.YtimhcpmfhebbhaaDoor.M
open Go.RowKit Go.Proofs.YtimhcpmfhebbhaaDoorW.PrintWords Go.Proofs.YtimhcpmfhebbhaaDoorW.PrintLast
set_option linter.unusedVariables false
set_option linter.unusedSimpArgs false

/-! ### word_Number: function 79 -/
def word_Number.l0 : Nat → ByteArray → Int → Int → Int → Option (Int × Int)
  | 0, _, _, _, _ => none
  | k + 1, x0, x4, x7, x8 => if x8 < x7 then (if 0 ≤ x8 then (if x8 < (x0.size : Int) then (if 0 ≤ (wrap64 (8 * x8)) then (word_Number.l0 k x0 (Go.bits .or .i64 x4 (shl .i64 (wrap64 (bt x0 x8)) (wrap64 (8 * x8)))) x7 (wrap64 (x8 + 1))) else (none)) else (none)) else (none)) else (if (x0.size : Int) = 1 then (some (wrap64 (IntKind.i8.wrap (x4)), 0)) else (if (x0.size : Int) = 4 then (some (wrap64 (wrap32 (x4)), 0)) else (if (x0.size : Int) = 8 then (some (x4, 0)) else (some (0, 1)))))
def word_Number.f (k : Nat) (a0 : ByteArray) : Option (Int × Int) := word_Number.l0 k a0 0 (a0.size : Int) 0
set_option maxHeartbeats 8000000 in
set_option maxRecDepth 100000 in
theorem word_Number.calls (k : Nat) (a0 : ByteArray) (r1 : Int) (r2 : Int) (w : World) (h : word_Number.f k a0 = some (r1, r2)) :
    Calls Tryd.prog 79 #[.string a0] w fun e w' => e = .returned (.tuple #[.int .i64 r1, .int .i64 r2]) ∧ Drawn0 w w' := by
  have H : (word_Number.l0 k a0 0 (a0.size : Int) 0) = some (r1, r2) := h
  clear h
  have H' := Aside0.mk H
  clear H
  go_enter Tryd.func79, Tryd.ntmps79
  go_wp2
  go_loopg [4, 8] k (fun kq v4 v8 w' => ∃ (x4_1 : Int) (x8_1 : Int), v4 = .int .i64 x4_1 ∧ v8 = .int .i64 x8_1 ∧ Aside0 (word_Number.l0 kq a0 x4_1 (a0.size : Int) x8_1 = some (r1, r2)) ∧ Aside0 (kq ≤ k) ∧ Drawn0 w w')
  case atStart => exact ⟨(0), (0), (by first | rfl | (simp; done) | (simp [*]; done)), (by first | rfl | (simp; done) | (simp [*]; done)), H', ⟨Nat.le_refl _⟩, by repeat (first | exact Drawn0.refl _ | apply Drawn0.step)⟩
  case round =>
    clear H'
    obtain ⟨x4_1, x8_1, rfl, rfl, HA, HK1, ⟨m1, rfl⟩⟩ := hrel
    cases gk with
    | zero => exact absurd HA.out (by simp [word_Number.l0])
    | succ k1 =>
      have H := HA.out
      clear HA
      simp only [word_Number.l0] at H
      by_cases c2 : x8_1 < (a0.size : Int)
      · rw [if_pos c2] at H
        have c2b0 : decide (x8_1 < (a0.size : Int)) = true := decide_eq_true c2
        clear c2
        by_cases c3 : 0 ≤ x8_1
        · rw [if_pos c3] at H
          have c3b0 : decide (0 ≤ x8_1) = true := decide_eq_true c3
          clear c3
          by_cases c4 : x8_1 < (a0.size : Int)
          · rw [if_pos c4] at H
            have c4b0 : decide (x8_1 < (a0.size : Int)) = true := decide_eq_true c4
            clear c4
            obtain ⟨ji6, hji6⟩ : ∃ j_ : Int, (wrap64 (8 * x8_1)) = j_ := ⟨_, rfl⟩
            replace H : (if 0 ≤ (ji6) then (word_Number.l0 k1 a0 (Go.bits .or .i64 x4_1 (shl .i64 (wrap64 (bt a0 x8_1)) (ji6))) (a0.size : Int) (wrap64 (x8_1 + 1))) else (none)) = some (r1, r2) := by first | (rw [hji6] at H; exact H) | (simp only [hji6] at H ⊢; exact H)
            have hji6w : (IntKind.i64.wrap (8 * x8_1)) = ji6 := (i64_w _).trans hji6
            by_cases c7 : 0 ≤ (ji6)
            · rw [if_pos c7] at H
              have c7b0 := eq_true c7
              have c7b1 : decide (0 ≤ (ji6)) = true := decide_eq_true c7
              clear c7
              obtain ⟨ji8, hji8⟩ : ∃ j_ : Int, (shl .i64 (wrap64 (bt a0 x8_1)) (ji6)) = j_ := ⟨_, rfl⟩
              replace H : (word_Number.l0 k1 a0 (Go.bits .or .i64 x4_1 (ji8)) (a0.size : Int) (wrap64 (x8_1 + 1))) = some (r1, r2) := by first | (rw [hji8] at H; exact H) | (simp only [hji8] at H ⊢; exact H)
              have hji8_ : (IntKind.i64.wrap ((wrap64 (bt a0 x8_1)) * 2 ^ min (ji6).toNat 64)) = ji8 := hji8
              have hji8z : (ji6) ≤ 64 → (IntKind.i64.wrap ((wrap64 (bt a0 x8_1)) * 2 ^ (ji6).toNat)) = ji8 := shl_small hji8
              have hji8y : (wrap64 ((wrap64 (bt a0 x8_1)) * 2 ^ min (ji6).toNat 64)) = ji8 := (i64_w _).symm.trans hji8_
              have hji8x : (ji6) ≤ 64 → (wrap64 ((wrap64 (bt a0 x8_1)) * 2 ^ (ji6).toNat)) = ji8 := fun h_ => (i64_w _).symm.trans (hji8z h_)
              have H' := Aside0.mk H
              clear H
              have p5 : 0 ≤ (x8_1 : Int) := of_decide_eq_true (by first | (with_reducible assumption) | assumption)
              have q5 : x8_1 < (a0.size : Int) := of_decide_eq_true (by first | (with_reducible assumption) | assumption)
              have hx5 := bt_at a0 x8_1
              replace p5 := eq_true p5
              replace q5 := eq_true q5
              go_wp2
              go_roundg k1
              case measure => have := HK1.out; omega
              case rel => exact ⟨(Go.bits .or .i64 x4_1 (ji8)), (wrap64 (x8_1 + 1)), (by first | rfl | (simp; done) | (simp only [← hji8] <;> (first | rfl | simp)) | (simp [*]; done)), (by first | rfl | (simp; done) | (simp [*]; done)), H', ⟨by have := HK1.out; omega⟩, by repeat (first | exact Drawn0.refl _ | apply Drawn0.step)⟩
            · rw [if_neg c7] at H
              exact absurd H (by simp)
          · rw [if_neg c4] at H
            exact absurd H (by simp)
        · rw [if_neg c3] at H
          exact absurd H (by simp)
      · rw [if_neg c2] at H
        have c2b0 : decide (x8_1 < (a0.size : Int)) = false := decide_eq_false c2
        clear c2
        by_cases c9 : (a0.size : Int) = 1
        · rw [if_pos c9] at H
          have c9b0 : ((a0.size : Int) == 1) = true := beq_iff_eq.mpr c9
          have c9b1 : ((a0.size : Int) != 1) = false := bne_eq_false_iff_eq.mpr c9
          clear c9
          simp only [Option.some.injEq, Prod.mk.injEq] at H
          obtain ⟨rfl, rfl⟩ := H
          go_wp2
          go_ret2
          exact ⟨by first | rfl | (simp; done) | (simp [*]; done), by repeat (first | exact Drawn0.refl _ | apply Drawn0.step)⟩
        · rw [if_neg c9] at H
          have c9b0 : ((a0.size : Int) == 1) = false := beq_eq_false_iff_ne.mpr c9
          have c9b1 : ((a0.size : Int) != 1) = true := bne_iff_ne.mpr c9
          by_cases c10 : (a0.size : Int) = 4
          · rw [if_pos c10] at H
            have c10b0 : ((a0.size : Int) == 4) = true := beq_iff_eq.mpr c10
            have c10b1 : ((a0.size : Int) != 4) = false := bne_eq_false_iff_eq.mpr c10
            clear c10
            simp only [Option.some.injEq, Prod.mk.injEq] at H
            obtain ⟨rfl, rfl⟩ := H
            go_wp2
            go_ret2
            exact ⟨by first | rfl | (simp; done) | (simp [*]; done), by repeat (first | exact Drawn0.refl _ | apply Drawn0.step)⟩
          · rw [if_neg c10] at H
            have c10b0 : ((a0.size : Int) == 4) = false := beq_eq_false_iff_ne.mpr c10
            have c10b1 : ((a0.size : Int) != 4) = true := bne_iff_ne.mpr c10
            by_cases c11 : (a0.size : Int) = 8
            · rw [if_pos c11] at H
              have c11b0 : ((a0.size : Int) == 8) = true := beq_iff_eq.mpr c11
              have c11b1 : ((a0.size : Int) != 8) = false := bne_eq_false_iff_eq.mpr c11
              clear c11
              simp only [Option.some.injEq, Prod.mk.injEq] at H
              obtain ⟨rfl, rfl⟩ := H
              go_wp2
              go_ret2
              exact ⟨by first | rfl | (simp; done) | (simp [*]; done), by repeat (first | exact Drawn0.refl _ | apply Drawn0.step)⟩
            · rw [if_neg c11] at H
              have c11b0 : ((a0.size : Int) == 8) = false := beq_eq_false_iff_ne.mpr c11
              have c11b1 : ((a0.size : Int) != 8) = true := bne_iff_ne.mpr c11
              simp only [Option.some.injEq, Prod.mk.injEq] at H
              obtain ⟨rfl, rfl⟩ := H
              go_wp2
              go_ret2
              exact ⟨by first | rfl | (simp; done) | (simp [*]; done), by repeat (first | exact Drawn0.refl _ | apply Drawn0.step)⟩

/-! ### ins_isRegister: function 93 -/
def ins_isRegister.f (a0 : Int) : Option (Bool) := if a0 ≥ 0 then (some (decide (a0 < 8))) else (some false)
set_option maxHeartbeats 8000000 in
set_option maxRecDepth 100000 in
theorem ins_isRegister.calls (a0 : Int) (r : Bool) (w : World) (h : ins_isRegister.f a0 = some r) :
    Calls Tryd.prog 93 #[.int .i64 a0] w fun e w' => e = .returned (.bool r) ∧ Drawn0 w w' := by
  have H : (if a0 ≥ 0 then (some (decide (a0 < 8))) else (some false)) = some r := h
  clear h
  by_cases c2 : a0 ≥ 0
  · rw [if_pos c2] at H
    have c2b0 : decide (0 ≤ a0) = true := decide_eq_true c2
    clear c2
    obtain rfl := Option.some.inj H
    go_enter Tryd.func93, Tryd.ntmps93
    go_wp2
    go_ret
    exact ⟨by first | rfl | (simp; done) | (simp [*]; done), by repeat (first | exact Drawn0.refl _ | apply Drawn0.step)⟩
  · rw [if_neg c2] at H
    have c2b0 : decide (0 ≤ a0) = false := decide_eq_false c2
    clear c2
    obtain rfl := Option.some.inj H
    go_enter Tryd.func93, Tryd.ntmps93
    go_wp2
    go_ret
    exact ⟨by first | rfl | (simp; done) | (simp [*]; done), by repeat (first | exact Drawn0.refl _ | apply Drawn0.step)⟩

end Go.Proofs.YtimhcpmfhebbhaaDoor.M

/-
  What word.Bytes and word.Number answer, said by plain functions. Conditions: a number of 64 bits with a sign; a text of at most 2^47 bytes.
-/
namespace Go.Proofs.YtimhcpmfhebbhaaDoor.Word1
open Go.RowKit Go.Proofs.YtimhcpmfhebbhaaDoor.M Go.Proofs.YtimhcpmfhebbhaaDoor.Num Go.Proofs.YtimhcpmfhebbhaaDoor.Seven Go.Proofs.YtimhcpmfhebbhaaDoorW.PrintWords Go.Proofs.YtimhcpmfhebbhaaDoorW.PrintLast

def Fits (n size : Int) : Prop := size = 1 ∧ -128 ≤ n ∧ n < 128 ∨ size = 4 ∧ -2147483648 ≤ n ∧ n < 2147483648 ∨ size = 8
instance (n size : Int) : Decidable (Fits n size) := by unfold Fits; exact inferInstance
/-- What Bytes answers. -/
def bytesR (n size : Int) : ByteArray × Int :=
  if size = 1 ∨ size = 4 ∨ size = 8 then if Fits n size then (strOfNums (leL n size.toNat), 0) else (⟨#[]⟩, 7) else (⟨#[]⟩, 1)

theorem shr_bytes (n : Int) (i : Nat) (h : i ≤ 8) : shr .i64 n (8 * (i : Int)) = n / 256 ^ i := by
  unfold shr
  have e : (8 * (i : Int)).toNat = 8 * i := by omega
  have hm : min (8 * i) IntKind.i64.bits = 8 * i := Nat.min_eq_left (by have : IntKind.i64.bits = 64 := rfl; omega)
  rw [e, hm, Int.pow_mul]
  rfl

theorem bytes_l0 (n : Int) (s : Nat) (hs : s ≤ 8) : ∀ (d k i : Nat), s - i = d → i ≤ s → d < k →
    word_Bytes.l0 k n (leL n i ++ List.replicate (s - i) 0) (s : Int) i = some (strOfNums (leL n s), 0) := by
  intro d
  induction d with
  | zero =>
    intro k i hd hi hk
    obtain ⟨k, rfl⟩ : ∃ m, k = m + 1 := ⟨k - 1, by omega⟩
    obtain rfl : i = s := by omega
    simp only [word_Bytes.l0]
    rw [if_neg (by omega), Nat.sub_self]
    simp
  | succ d ih =>
    intro k i hd hi hk
    obtain ⟨k, rfl⟩ : ∃ m, k = m + 1 := ⟨k - 1, by omega⟩
    simp only [word_Bytes.l0]
    have hw : wrap64 (8 * (i : Int)) = 8 * i := wrap64_id (by omega) (by omega)
    have hl : (leL n i ++ List.replicate (s - i) 0).length = s := by rw [List.length_append, leL_len, List.length_replicate]; omega
    rw [hw, hl, if_pos (by omega), if_pos (by omega), if_pos (by omega), if_pos (by omega), shr_bytes n i (by omega), wrap64_id (by omega) (by omega), show ((i : Int) + 1) = ((i + 1 : Nat) : Int) by omega]
    have e : (leL n i ++ List.replicate (s - i) 0).set (i : Int).toNat (n / 256 ^ i % 256) = leL n (i + 1) ++ List.replicate (s - (i + 1)) 0 := by
      rw [Int.toNat_natCast, List.set_append_right _ _ (by rw [leL_len]; exact Nat.le_refl _), leL_len, Nat.sub_self, show s - i = (s - (i + 1)) + 1 by omega, List.replicate_succ, List.set_cons_zero, leL_snoc]
      simp
    rw [e]
    exact ih k (i + 1) (by omega) (by omega) (by omega)

theorem bytes_f (n size : Int) (h0 : -9223372036854775808 ≤ n) (h1 : n < 9223372036854775808) (k : Nat) (hk : 9 < k) : word_Bytes.f k n size = some (bytesR n size) := by
  obtain ⟨k, rfl⟩ : ∃ m, k = m + 1 := ⟨k - 1, by omega⟩
  have hj : ∀ s : Nat, s ≤ 8 → word_Bytes.j0 (k + 1) n s = some (strOfNums (leL n s), 0) := by
    intro s hs
    simp only [word_Bytes.j0]
    rw [if_pos (by omega), if_pos (by omega)]
    simp only [Option.bind_some, List.length_replicate, Int.toNat_natCast]
    have h := bytes_l0 n s hs s k 0 (by omega) (by omega) (by omega)
    simpa [leL] using h
  unfold word_Bytes.f bytesR
  by_cases e1 : size = 1
  · subst e1
    have := hj 1 (by omega)
    by_cases hf : -128 ≤ n ∧ n < 128
    · rw [if_pos rfl, if_pos (by rw [wrap_i8]; unfold wrap64; omega), if_pos (by omega), if_pos (by unfold Fits; omega)]
      exact this
    · rw [if_pos rfl, if_neg (by rw [wrap_i8]; unfold wrap64; omega), if_pos (by omega), if_neg (by unfold Fits; omega)]
  · rw [if_neg e1]
    by_cases e4 : size = 4
    · subst e4
      have := hj 4 (by omega)
      by_cases hf : -2147483648 ≤ n ∧ n < 2147483648
      · rw [if_pos rfl, if_pos (by unfold wrap64 wrap32; omega), if_pos (by omega), if_pos (by unfold Fits; omega)]
        exact this
      · rw [if_pos rfl, if_neg (by unfold wrap64 wrap32; omega), if_pos (by omega), if_neg (by unfold Fits; omega)]
    · rw [if_neg e4]
      by_cases e8 : size = 8
      · subst e8
        rw [if_pos rfl, if_pos (by omega), if_pos (by unfold Fits; omega)]
        exact hj 8 (by omega)
      · rw [if_neg e8, if_neg (by omega)]

/-- What Number answers. -/
def numR (s : ByteArray) : Int × Int :=
  if s.size = 1 then ((unleL (bytesOf s) + 128) % 256 - 128, 0)
  else if s.size = 4 then ((unleL (bytesOf s) + 2147483648) % 4294967296 - 2147483648, 0)
  else if s.size = 8 then (wrap64 (unleL (bytesOf s)), 0)
  else (0, 1)

theorem take_snoc_bytes (s : ByteArray) (i : Nat) (h : i < s.size) : (bytesOf s).take (i + 1) = (bytesOf s).take i ++ [bt s i] := by
  have hl : i < (bytesOf s).length := by rw [bytesOf_length]; exact h
  rw [List.take_succ_eq_append_getElem hl, ← rd_bytesOf]
  unfold rd
  rw [Int.toNat_natCast, List.getD_eq_getElem?_getD, List.getElem?_eq_getElem hl]
  rfl

theorem shl_bytes (b : Int) (i : Nat) (h0 : 0 ≤ b) (h1 : b < 256) (h : i ≤ 7) : shl .i64 (wrap64 b) (wrap64 (8 * (i : Int))) = wrap64 (b * 256 ^ i) := by
  unfold shl
  have hw : wrap64 (8 * (i : Int)) = 8 * i := wrap64_id (by omega) (by omega)
  have e : (8 * (i : Int)).toNat = 8 * i := by omega
  have hm : min (8 * i) IntKind.i64.bits = 8 * i := Nat.min_eq_left (by have : IntKind.i64.bits = 64 := rfl; omega)
  rw [hw, e, hm, Int.pow_mul, wrap_i64, wrap64_id (n := b) (by omega) (by omega)]
  rfl

theorem number_bad (s : ByteArray) (hs : s.size ≤ 140737488351232) (hb : ¬ (s.size = 1 ∨ s.size = 4 ∨ s.size = 8)) : ∀ (d k i : Nat) (x : Int), s.size - i = d → i ≤ s.size → d < k →
    word_Number.l0 k s x (s.size : Int) i = some (0, 1) := by
  intro d
  induction d with
  | zero =>
    intro k i x hd hi hk
    obtain ⟨k, rfl⟩ : ∃ m, k = m + 1 := ⟨k - 1, by omega⟩
    simp only [word_Number.l0]
    rw [if_neg (by omega), if_neg (by omega), if_neg (by omega), if_neg (by omega)]
  | succ d ih =>
    intro k i x hd hi hk
    obtain ⟨k, rfl⟩ : ∃ m, k = m + 1 := ⟨k - 1, by omega⟩
    simp only [word_Number.l0]
    have hw : wrap64 (8 * (i : Int)) = 8 * i := wrap64_id (by omega) (by omega)
    rw [if_pos (by omega), if_pos (by omega), if_pos (by omega), if_pos (by rw [hw]; omega), wrap64_id (n := (i : Int) + 1) (by omega) (by omega), show ((i : Int) + 1) = ((i + 1 : Nat) : Int) by omega]
    exact ih k (i + 1) _ (by omega) (by omega) (by omega)

theorem number_l0 (s : ByteArray) (hs : s.size ≤ 8) (hg : s.size = 1 ∨ s.size = 4 ∨ s.size = 8) : ∀ (d k i : Nat), s.size - i = d → i ≤ s.size → d < k →
    word_Number.l0 k s (wrap64 (unleL ((bytesOf s).take i))) (s.size : Int) i = some (numR s) := by
  intro d
  induction d with
  | zero =>
    intro k i hd hi hk
    obtain ⟨k, rfl⟩ : ∃ m, k = m + 1 := ⟨k - 1, by omega⟩
    obtain rfl : i = s.size := by omega
    have hr := unleL_range _ (bytesOf_Bs s)
    rw [bytesOf_length] at hr
    simp only [word_Number.l0]
    rw [if_neg (by omega), List.take_of_length_le (by rw [bytesOf_length]; exact Nat.le_refl _)]
    unfold numR
    rcases hg with h | h | h
    · rw [if_pos (by omega), if_pos h, wrap_i8]
      rw [h] at hr
      unfold wrap64
      congr 2
      omega
    · rw [if_neg (by omega), if_pos (by omega), if_neg (by omega), if_pos h]
      rw [h] at hr
      unfold wrap32 wrap64
      congr 2
      omega
    · rw [if_neg (by omega), if_neg (by omega), if_pos (by omega), if_neg (by omega), if_neg (by omega), if_pos h]
  | succ d ih =>
    intro k i hd hi hk
    obtain ⟨k, rfl⟩ : ∃ m, k = m + 1 := ⟨k - 1, by omega⟩
    simp only [word_Number.l0]
    have hw : wrap64 (8 * (i : Int)) = 8 * i := wrap64_id (by omega) (by omega)
    have hbr := bt_range s i
    have hr := unleL_range _ ((bytesOf_Bs s).take i)
    have hl : ((bytesOf s).take i).length = i := by rw [List.length_take, bytesOf_length]; omega
    rw [hl] at hr
    rw [if_pos (by omega), if_pos (by omega), if_pos (by omega), if_pos (by rw [hw]; omega), wrap64_id (n := (i : Int) + 1) (by omega) (by omega), show ((i : Int) + 1) = ((i + 1 : Nat) : Int) by omega,
      shl_bytes _ i (by omega) (by omega) (by omega), or_join _ _ i (by omega) hr.1 hr.2 (by omega) (by omega)]
    have e := unleL_snoc ((bytesOf s).take i) (bt s i)
    rw [hl, ← take_snoc_bytes s i (by omega)] at e
    rw [← e]
    exact ih k (i + 1) (by omega) (by omega) (by omega)

theorem number_f (s : ByteArray) (hs : s.size ≤ 140737488351232) (k : Nat) (hk : s.size < k) : word_Number.f k s = some (numR s) := by
  unfold word_Number.f
  by_cases hg : s.size = 1 ∨ s.size = 4 ∨ s.size = 8
  · have h := number_l0 s (by omega) hg s.size k 0 (by omega) (by omega) hk
    simpa [unleL, wrap64] using h
  · have h := number_bad s hs hg s.size k 0 0 (by omega) (by omega) hk
    unfold numR
    rw [if_neg (by omega), if_neg (by omega), if_neg (by omega)]
    exact h

/-- Number turns Bytes back. -/
theorem num_bytes (n size : Int) (h0 : -9223372036854775808 ≤ n) (h1 : n < 9223372036854775808) (h : Fits n size) : numR (bytesR n size).1 = (n, 0) := by
  unfold bytesR
  have hz : size = 1 ∨ size = 4 ∨ size = 8 := by unfold Fits at h; omega
  rw [if_pos hz, if_pos h]
  simp only [numR, strOfNums_size, leL_len]
  rw [bytesOf_str (leL_bs _ _), unleL_leL]
  rcases h with ⟨rfl, h⟩ | ⟨rfl, h⟩ | rfl
  · rw [if_pos (by omega)]
    have e : (1 : Int).toNat = 1 := rfl
    rw [e]
    congr 1
    omega
  · rw [if_neg (by omega), if_pos (by omega)]
    have e : (4 : Int).toNat = 4 := rfl
    rw [e]
    congr 1
    omega
  · rw [if_neg (by omega), if_neg (by omega), if_pos (by omega)]
    have e : (8 : Int).toNat = 8 := rfl
    rw [e]
    unfold wrap64
    congr 1
    omega

end Go.Proofs.YtimhcpmfhebbhaaDoor.Word1

/-
  Layer 6: what objf.Write answers: a form by plain functions on lists, and the walk that shows it. Condition: the words of data are of 64 bits.
-/
namespace Go.Proofs.YtimhcpmfhebbhaaDoor.M
set_option maxRecDepth 100000
open Go.RowKit Go.Proofs.YtimhcpmfhebbhaaDoorW.PrintWords Go.Proofs.YtimhcpmfhebbhaaDoorW.PrintLast Go.Proofs.YtimhcpmfhebbhaaDoor.Num Go.Proofs.YtimhcpmfhebbhaaDoor.Seven Go.Proofs.YtimhcpmfhebbhaaDoor.Word1 Go.Proofs.YtimhcpmfhebbhaaDoor.Obj
set_option linter.unusedVariables false
set_option linter.unusedSimpArgs false
def wordsOk (l : List Int) : Prop := ∀ n ∈ l, -9223372036854775808 ≤ n ∧ n < 9223372036854775808
instance (l : List Int) : Decidable (wordsOk l) := by unfold wordsOk; exact inferInstance
def textL (s : ByteArray) : List Int := putL s.size ++ bytesOf s
def symL (s : S68) : List Int := textL s.f0 ++ [s.f1 % 256] ++ putL s.f2.toNat
def relL (r : S116) : List Int := putL r.f0.toNat ++ [r.f1 % 256] ++ textL r.f2 ++ leL r.f3 8
def dataL (l : List Int) : List Int := l.flatMap fun n => leL n 8
def symsL (l : List S68) : List Int := l.flatMap symL
def relsL (l : List S116) : List Int := l.flatMap relL
def front0 (mark : List Int) (code : ByteArray) (data : List Int) : List Int := mark ++ textL code ++ putL data.length
def front1 (mark : List Int) (code : ByteArray) (data : List Int) (syms : List S68) : List Int := front0 mark code data ++ dataL data ++ putL syms.length
def front (mark : List Int) (code : ByteArray) (data : List Int) (syms : List S68) : List Int := front1 mark code data syms ++ symsL syms
def form (mark : List Int) (code : ByteArray) (data : List Int) (syms : List S68) (rels : List S116) : List Int := front mark code data syms ++ putL rels.length ++ relsL rels
def COT1 : List Int := [67, 79, 84, 49]
theorem symGood_named {code data : Int} {s : S68} (h : symGood code data s = true) : named s.f0 ∧ 0 ≤ s.f2 ∧ s.f2 < (if s.f1 = 2 then data else code) ∧ (s.f1 = 1 ∨ s.f1 = 2 ∨ s.f1 = 3) := by
  unfold symGood at h
  simp only [Bool.and_eq_true, decide_eq_true_eq] at h
  exact ⟨h.1.1.2, h.1.2, h.2, h.1.1.1⟩
theorem put_small {n : Nat} (h : n < 18446744073709551616) : (putL n).length ≤ 10 := putL_ten h
theorem bytes8 (n : Int) (h : -9223372036854775808 ≤ n ∧ n < 9223372036854775808) : word_Bytes.f 10 n 8 = some (strOfNums (leL n 8), 0) := by
  rw [bytes_f n 8 h.1 h.2 10 (by omega)]
  unfold bytesR
  rw [if_pos (by omega), if_pos (by unfold Fits; omega)]
  rfl
theorem put8 (n : Nat) (h : n < 18446744073709551616) : word_Put.f 10 (IntKind.u64.wrap (n : Int)) = some (strOfNums (putL n)) := by
  rw [wrap_u64_id (by omega) (by omega)]
  exact Put_f h (by omega)
theorem put8' (n : Int) (h0 : 0 ≤ n) (h : n < 18446744073709551616) : word_Put.f 10 (IntKind.u64.wrap n) = some (strOfNums (putL n.toNat)) := by
  have := put8 n.toNat (by omega)
  rwa [Int.toNat_of_nonneg h0] at this
theorem of_strPut (n : Nat) : bytesOf (strOfNums (putL n)) = putL n := bytesOf_str (putL_bs n)
theorem of_strLe (n : Int) (s : Nat) : bytesOf (strOfNums (leL n s)) = leL n s := bytesOf_str (leL_bs n s)
theorem str_size (l : List Int) (h : Bs l) : (strOfNums l).size = l.length := by rw [← bytesOf_length, bytesOf_str h]
theorem flat_snoc {α : Type} (f : α → List Int) (l : List α) (k : Nat) (h : k < l.length) : (l.take (k + 1)).flatMap f = (l.take k).flatMap f ++ f l[k] := by
  rw [List.take_succ_eq_append_getElem h, List.flatMap_append, List.flatMap_cons, List.flatMap_nil, List.append_nil]
theorem dataL_snoc (l : List Int) (k : Nat) (h : k < l.length) : dataL (l.take (k + 1)) = dataL (l.take k) ++ leL l[k] 8 := flat_snoc _ l k h
theorem symsL_snoc (l : List S68) (k : Nat) (h : k < l.length) : symsL (l.take (k + 1)) = symsL (l.take k) ++ symL l[k] := flat_snoc _ l k h
theorem dataL_len (l : List Int) : (dataL l).length = 8 * l.length := by
  induction l with
  | nil => rfl
  | cons n l ih =>
    have e : dataL (n :: l) = leL n 8 ++ dataL l := rfl
    rw [e, List.length_append, ih, leL_len, List.length_cons]
    omega
theorem textL_len (s : ByteArray) (h : s.size < 18446744073709551616) : (textL s).length ≤ 10 + s.size := by
  unfold textL
  rw [List.length_append, bytesOf_length]
  have := put_small h
  omega
theorem symL_len (s : S68) (h : named s.f0) (h2 : s.f2 < 18446744073709551616) : (symL s).length ≤ 49 := by
  unfold symL
  rw [List.length_append, List.length_append]
  have h1 := textL_len s.f0 (by have := h.2; omega)
  have h3 := put_small (n := s.f2.toNat) (by omega)
  have := h.2
  simp only [List.length_cons, List.length_nil]
  omega
theorem symsL_len (l : List S68) (h : ∀ s ∈ l, named s.f0 ∧ s.f2 < 18446744073709551616) : (symsL l).length ≤ 49 * l.length := by
  induction l with
  | nil => exact Nat.le_refl _
  | cons s l ih =>
    have e : symsL (s :: l) = symL s ++ symsL l := rfl
    have h1 := symL_len s (h s (by simp)).1 (h s (by simp)).2
    have h2 := ih (fun t ht => h t (by simp [ht]))
    rw [e, List.length_append, List.length_cons]
    omega
/-- What relocations that may be are, one by one. -/
theorem relsOk_all : ∀ (l : List S116) (code free : Int), 0 ≤ free → relsOk code free l = true → ∀ r ∈ l, named r.f2 ∧ 0 ≤ r.f0 ∧ r.f0 ≤ code - 4 ∧ (r.f1 = 1 ∨ r.f1 = 2) ∧ -9223372036854775808 ≤ r.f3 ∧ r.f3 < 9223372036854775808 := by
  intro l
  induction l with
  | nil => intro _ _ _ _ r hr; cases hr
  | cons x l ih =>
    intro code free hf h r hr
    simp only [relsOk, Bool.and_eq_true, decide_eq_true_eq] at h
    obtain ⟨⟨h1, h2, h3, h4⟩, h5⟩ := h
    rcases List.mem_cons.1 hr with rfl | hr
    · exact ⟨h1, by omega, h3, by omega, by omega, by omega⟩
    · exact ih code (x.f0 + 4) (by omega) h5 r hr
theorem may_parts {code : ByteArray} {data : List Int} {syms : List S68} {rels : List S116} (h : may code data syms rels = true) :
    code.size ≤ 65536 ∧ data.length ≤ 4096 ∧ syms.length ≤ 1000 ∧ rels.length ≤ 8000 ∧
    (∀ s ∈ syms, named s.f0 ∧ 0 ≤ s.f2 ∧ s.f2 < 65536 ∧ (s.f1 = 1 ∨ s.f1 = 2 ∨ s.f1 = 3)) ∧
    (∀ r ∈ rels, named r.f2 ∧ 0 ≤ r.f0 ∧ r.f0 < 65536 ∧ (r.f1 = 1 ∨ r.f1 = 2) ∧ -9223372036854775808 ≤ r.f3 ∧ r.f3 < 9223372036854775808) := by
  unfold may symsOk at h
  simp only [Bool.and_eq_true, decide_eq_true_eq] at h
  obtain ⟨⟨⟨⟨h1, h2⟩, ⟨h3, h4⟩, h5⟩, h6⟩, h7⟩ := h
  refine ⟨h1, h2, h5, h7, fun s hs => ?_, fun r hr => ?_⟩
  · have := symGood_named (List.all_eq_true.1 h3 s hs)
    refine ⟨this.1, this.2.1, ?_, this.2.2.2⟩
    have h8 := this.2.2.1
    split at h8 <;> omega
  · have := relsOk_all rels _ 0 (by omega) h6 r hr
    exact ⟨this.1, this.2.1, by omega, this.2.2.2.1, this.2.2.2.2.1, this.2.2.2.2.2⟩
end Go.Proofs.YtimhcpmfhebbhaaDoor.M

namespace Go.Proofs.YtimhcpmfhebbhaaDoor.M
end Go.Proofs.YtimhcpmfhebbhaaDoor.M
/-
  What the document's Put, All, Take, Bytes and Number (cotterref01) answer, said by the same plain functions as the program's. Conditions: numbers of 64 bits; lists and texts small enough.
-/
namespace Go.Proofs.YtimhcpmfhebbhaaDoor.Word1
open Go.RowKit Go.Proofs.YtimhcpmfhebbhaaDoor.M Go.Proofs.YtimhcpmfhebbhaaDoor.Num Go.Proofs.YtimhcpmfhebbhaaDoor.Seven Go.Proofs.YtimhcpmfhebbhaaDoorW.PrintWords Go.Proofs.YtimhcpmfhebbhaaDoorW.PrintLast

theorem sized_f (n : Int) : cotterref01_sized.f n = some (decide (n = 1 ∨ n = 4 ∨ n = 8)) := by
  unfold cotterref01_sized.f
  by_cases e1 : n = 1
  · simp [e1]
  · by_cases e4 : n = 4
    · simp [e4]
    · by_cases e8 : n = 8
      · simp [e8]
      · simp [e1, e4, e8]

theorem rbytes_l0 (n : Int) (s : Nat) (hs : s ≤ 8) : ∀ (d k i : Nat), s - i = d → i ≤ s → d < k →
    cotterref01_Bytes.l0 k s (leL n i) (n % 18446744073709551616 / 256 ^ i) i = some (strOfNums (leL n s), 0) := by
  intro d
  induction d with
  | zero =>
    intro k i hd hi hk
    obtain ⟨k, rfl⟩ : ∃ m, k = m + 1 := ⟨k - 1, by omega⟩
    obtain rfl : i = s := by omega
    simp only [cotterref01_Bytes.l0]
    rw [if_neg (by omega)]
  | succ d ih =>
    intro k i hd hi hk
    obtain ⟨k, rfl⟩ : ∃ m, k = m + 1 := ⟨k - 1, by omega⟩
    simp only [cotterref01_Bytes.l0]
    have hp := pow256_pos i
    have hq : 0 ≤ n % 18446744073709551616 / 256 ^ i := Int.ediv_nonneg (by omega) (by omega)
    have hq1 : n % 18446744073709551616 / 256 ^ i ≤ n % 18446744073709551616 := Int.ediv_le_self _ (by omega)
    have hb : n % 18446744073709551616 / 256 ^ i % 256 = n / 256 ^ i % 256 := by
      have h := leL_mod n (i + 1) 8 (by omega)
      have e8 : (256 : Int) ^ 8 = 18446744073709551616 := by decide
      rw [e8, leL_snoc, leL_snoc, leL_mod' n i (by omega)] at h
      simpa using h
    have hm : Int.tmod (n % 18446744073709551616 / 256 ^ i) 256 = n / 256 ^ i % 256 := by rw [Int.tmod_eq_emod_of_nonneg hq, hb]
    have hd2 : IntKind.u64.wrap (Int.tdiv (n % 18446744073709551616 / 256 ^ i) 256) = n % 18446744073709551616 / 256 ^ (i + 1) := by
      rw [Int.tdiv_eq_ediv_of_nonneg hq, wrap_u64_id (by omega) (by omega), Int.ediv_ediv_of_nonneg (by omega), Int.pow_succ]
    rw [if_pos (by omega), if_pos (by rw [leL_len]; omega), hm, hd2, show n / 256 ^ i % 256 % 256 = n / 256 ^ i % 256 by omega, ← leL_snoc, wrap64_id (by omega) (by omega), show ((i : Int) + 1) = ((i + 1 : Nat) : Int) by omega]
    exact ih k (i + 1) (by omega) (by omega) (by omega)

theorem rbytes_f (n size : Int) (h0 : -9223372036854775808 ≤ n) (h1 : n < 9223372036854775808) (k : Nat) (hk : 10 < k) : cotterref01_Bytes.f k n size = some (bytesR n size) := by
  obtain ⟨k, rfl⟩ : ∃ m, k = m + 1 := ⟨k - 1, by omega⟩
  have hj : ∀ s : Nat, s ≤ 8 → cotterref01_Bytes.j0 (k + 1) n s = some (strOfNums (leL n s), 0) := by
    intro s hs
    simp only [cotterref01_Bytes.j0]
    rw [wrap_u64]
    have h := rbytes_l0 n s hs s k 0 (by omega) (by omega) (by omega)
    simpa [leL] using h
  unfold cotterref01_Bytes.f bytesR
  rw [sized_f]
  simp only [Option.bind_some, decide_eq_true_eq]
  by_cases hz : size = 1 ∨ size = 4 ∨ size = 8
  · rw [if_pos hz, if_pos hz]
    rcases hz with rfl | rfl | rfl
    · have e1 : IntKind.u64.wrap (wrap64 (wrap64 (8 * 1) - 1)) = 7 := by decide +kernel
      have e2 : shl .i64 1 7 = 128 := by decide +kernel
      have e3 : wrap64 (-128) = -128 := by decide +kernel
      rw [if_pos (by omega), e1, e2, e3, if_pos (by omega)]
      by_cases ha : n < -128
      · rw [if_pos ha, if_neg (by unfold Fits; omega)]
      · rw [if_neg ha]
        by_cases hb : n ≥ 128
        · rw [if_pos hb, if_neg (by unfold Fits; omega)]
        · rw [if_neg hb, if_pos (by unfold Fits; omega)]
          exact hj 1 (by omega)
    · have e1 : IntKind.u64.wrap (wrap64 (wrap64 (8 * 4) - 1)) = 31 := by decide +kernel
      have e2 : shl .i64 1 31 = 2147483648 := by decide +kernel
      have e3 : wrap64 (-2147483648) = -2147483648 := by decide +kernel
      rw [if_pos (by omega), e1, e2, e3, if_pos (by omega)]
      by_cases ha : n < -2147483648
      · rw [if_pos ha, if_neg (by unfold Fits; omega)]
      · rw [if_neg ha]
        by_cases hb : n ≥ 2147483648
        · rw [if_pos hb, if_neg (by unfold Fits; omega)]
        · rw [if_neg hb, if_pos (by unfold Fits; omega)]
          exact hj 4 (by omega)
    · rw [if_neg (by omega), if_pos (by unfold Fits; omega)]
      exact hj 8 (by omega)
  · rw [if_neg hz, if_neg hz]

theorem rnumber_l0 (s : ByteArray) (hg : s.size = 1 ∨ s.size = 4 ∨ s.size = 8) : ∀ (d k : Nat), d ≤ s.size → d < k →
    cotterref01_Number.l0 k s (unleL ((bytesOf s).drop d)) ((d : Int) - 1) = some (numR s) := by
  intro d
  induction d with
  | zero =>
    intro k hi hk
    obtain ⟨k, rfl⟩ : ∃ m, k = m + 1 := ⟨k - 1, by omega⟩
    simp only [cotterref01_Number.l0]
    have hr := unleL_range _ (bytesOf_Bs s)
    rw [bytesOf_length] at hr
    have hlast : ∀ n : Nat, s.size = n + 1 → unleL (bytesOf s) = unleL ((bytesOf s).take n) + bt s n * 256 ^ n ∧ 0 ≤ unleL ((bytesOf s).take n) ∧ unleL ((bytesOf s).take n) < 256 ^ n := by
      intro n hn
      have hl : ((bytesOf s).take n).length = n := by rw [List.length_take, bytesOf_length]; omega
      have e := unleL_snoc ((bytesOf s).take n) (bt s n)
      rw [hl, ← take_snoc_bytes s n (by omega), List.take_of_length_le (by rw [bytesOf_length]; omega)] at e
      have hr2 := unleL_range _ ((bytesOf_Bs s).take n)
      rw [hl] at hr2
      exact ⟨e, hr2.1, hr2.2⟩
    rw [if_neg (by omega), List.drop_zero]
    unfold numR
    rcases hg with h | h | h
    · obtain ⟨g1, g2, g3⟩ := hlast 0 h
      have hbr := bt_range s (0 : Nat)
      rw [h] at hr
      have ew : wrap64 ((s.size : Int) - 1) = ((0 : Nat) : Int) := by rw [h]; decide +kernel
      have es : shl .u64 1 (IntKind.u64.wrap (wrap64 (8 * (s.size : Int)))) = 256 := by rw [h]; decide +kernel
      rw [if_pos (by omega), ew, if_pos (by omega), if_pos (by omega), if_pos h, es]
      by_cases hb : bt s (0 : Nat) ≥ 128
      · rw [if_pos hb, if_pos (by rw [wrap_u64]; omega), wrap_u64]
        unfold wrap64
        congr 2
        omega
      · rw [if_neg hb]
        unfold wrap64
        congr 2
        omega
    · obtain ⟨g1, g2, g3⟩ := hlast 3 h
      have hbr := bt_range s (3 : Nat)
      rw [h] at hr
      have ew : wrap64 ((s.size : Int) - 1) = ((3 : Nat) : Int) := by rw [h]; decide +kernel
      have es : shl .u64 1 (IntKind.u64.wrap (wrap64 (8 * (s.size : Int)))) = 4294967296 := by rw [h]; decide +kernel
      rw [if_pos (by omega), ew, if_pos (by omega), if_pos (by omega), if_neg (show ¬ s.size = 1 by omega), if_pos h, es]
      by_cases hb : bt s (3 : Nat) ≥ 128
      · rw [if_pos hb, if_pos (by rw [wrap_u64]; omega), wrap_u64]
        unfold wrap64
        congr 2
        omega
      · rw [if_neg hb]
        unfold wrap64
        congr 2
        omega
    · rw [if_neg (by omega), if_neg (by omega), if_neg (by omega), if_pos h]
  | succ d ih =>
    intro k hi hk
    obtain ⟨k, rfl⟩ : ∃ m, k = m + 1 := ⟨k - 1, by omega⟩
    simp only [cotterref01_Number.l0]
    have e1 : ((d + 1 : Nat) : Int) - 1 = (d : Int) := by omega
    have hbr := bt_range s d
    have hr := unleL_range _ ((bytesOf_Bs s).drop (d + 1))
    have hl : ((bytesOf s).drop (d + 1)).length = s.size - (d + 1) := by rw [List.length_drop, bytesOf_length]
    have h7 : (256 : Int) ^ (s.size - (d + 1)) ≤ 256 ^ 7 := by
      have h1 : 256 ^ (s.size - (d + 1)) ≤ 256 ^ 7 := Nat.pow_le_pow_right (by decide) (by omega)
      have h2 : ((256 ^ (s.size - (d + 1)) : Nat) : Int) = (256 : Int) ^ (s.size - (d + 1)) := by simp
      have h3 : ((256 ^ 7 : Nat) : Int) = (256 : Int) ^ 7 := by simp
      omega
    have e7 : (256 : Int) ^ 7 = 72057594037927936 := by decide
    rw [hl] at hr
    rw [e7] at h7
    rw [e1, if_pos (by omega), if_pos (by omega), if_pos (by omega), wrap64_id (by omega) (by omega)]
    have e2 : IntKind.u64.wrap (IntKind.u64.wrap (unleL ((bytesOf s).drop (d + 1)) * 256) + IntKind.u64.wrap (bt s d)) = unleL ((bytesOf s).drop d) := by
      rw [bt_drop s d (by omega), unleL, wrap_u64, wrap_u64, wrap_u64]
      omega
    rw [e2]
    exact ih k (by omega) (by omega)

theorem rnumber_f (s : ByteArray) (hs : s.size ≤ 281474976710656) (k : Nat) (hk : 9 < k) : cotterref01_Number.f k s = some (numR s) := by
  unfold cotterref01_Number.f
  rw [sized_f]
  simp only [Option.bind_some, decide_eq_true_eq]
  by_cases hg : s.size = 1 ∨ s.size = 4 ∨ s.size = 8
  · rw [if_pos (by omega), wrap64_id (by omega) (by omega)]
    have h := rnumber_l0 s hg s.size k (by omega) (by omega)
    rw [List.drop_eq_nil_of_le (by rw [bytesOf_length]; exact Nat.le_refl _)] at h
    exact h
  · rw [if_neg (by omega)]
    unfold numR
    rw [if_neg (by omega), if_neg (by omega), if_neg (by omega)]

end Go.Proofs.YtimhcpmfhebbhaaDoor.Word1

/-
  Layer 6: rows of bytes that came of a conversion of a text (they bear a mark behind their end): read, appended to, told as a text. No condition beside the sizes.
-/
namespace Go.Proofs.YtimhcpmfhebbhaaDoorW.PrintWords
set_option maxRecDepth 100000
open Go.RowKit
set_option linter.unusedVariables false
set_option linter.unusedSimpArgs false
/-- A row of bytes of the call's own, whether it bears a mark behind its end or not. -/
def OwnB (w : World) (base e : Nat) (v : Value) (xs : List Int) : Prop :=
  (v = .slice none 0 0 ∧ xs = []) ∨ ∃ (g cap : Nat) (cur : Array Value) (fr : Nat × Nat), v = .slice (some ⟨g, 0, none⟩) xs.length cap ∧ base ≤ g ∧ w.heap[g]? = some (.cells cur e fr) ∧ (fr.2 ≤ fr.1 ∨ cur.size ≤ fr.1) ∧ xs.length ≤ cap ∧ cap ≤ maxLen ∧ cur.size = cap ∧ cur.toList.take xs.length = nums .u8 xs
theorem OwnB.slice {w : World} {base e : Nat} {v : Value} {xs : List Int} (h : OwnB w base e v xs) : ∃ A c, v = .slice A xs.length c := by
  rcases h with ⟨rfl, rfl⟩ | ⟨g, cap, cur, fr, rfl, _⟩
  · exact ⟨none, 0, rfl⟩
  · exact ⟨_, _, rfl⟩
theorem OwnB.kept {w w1 : World} {base e : Nat} {v : Value} {xs : List Int} (h : OwnB w base e v xs) (hk : ∀ k, v.ownBlock = some k → k < w.heap.size → w1.heap[k]? = w.heap[k]?) : OwnB w1 base e v xs := by
  rcases h with h | ⟨g, cap, cur, fr, rfl, hb, hg, r⟩
  · exact .inl h
  · exact .inr ⟨g, cap, cur, fr, rfl, hb, (hk g rfl (blk_lt hg)).trans hg, r⟩
theorem OwnB.below {w w1 : World} {base e : Nat} {v : Value} {xs : List Int} (h : OwnB w base e v xs) (hb : Below w.heap.size w w1) : OwnB w1 base e v xs := h.kept (fun k _ hk => hb.block k hk)
theorem OwnB.cells {w : World} {base e : Nat} {v : Value} {xs : List Int} (h : OwnB w base e v xs) : (∃ c, v = .slice none 0 c ∧ xs = []) ∨ ∃ g cap, v = .slice (some ⟨g, 0, none⟩) xs.length cap ∧ ∀ j u, (nums .u8 xs)[j]? = some u → w.cell? ⟨g, j, none⟩ = some u := by
  rcases h with ⟨rfl, rfl⟩ | ⟨g, cap, cur, fr, rfl, hb, hg, hf, h1, h2, h3, h4⟩
  · exact .inl ⟨0, rfl, rfl⟩
  · refine .inr ⟨g, cap, rfl, fun j u hj => ?_⟩
    rw [cell_of_row w g j cur e fr hg]
    have hlt : j < xs.length := by rw [← nums_length .u8 xs]; exact (List.getElem?_eq_some_iff.1 hj).1
    rw [← h4, List.getElem?_take_of_lt hlt] at hj
    simpa using hj
theorem OwnB.string {P : Program} {w : World} {base e' : Nat} {src dst e : TypeId} {v : Value} {xs : List Int} (hs : P.underlying src = some (.slice e)) (he : P.underlying e = some (.int .u8)) (hd : P.underlying dst = some .string)
    (h : OwnB w base e' v xs) : (convert src dst v).run P w = .ok (.string (strOfNums xs)) w := by
  rcases h.cells with ⟨c, rfl, rfl⟩ | ⟨g, cap, rfl, hc⟩
  · exact run_convert_bytes_nil w src e hs he 0 c dst hd
  · refine run_convert_bytes_arg w src e hs he g 0 xs.length cap xs rfl (fun i hi => ?_) dst hd
    have := hc i (.int .u8 (xs.getD i 0)) (by simp [nums, List.getElem?_eq_getElem (show i < xs.length by omega), List.getD_eq_getElem?_getD])
    simpa using this
/-- '[]byte(s)': the new row. -/
theorem OwnB.new (w : World) (base e : Nat) (s : ByteArray) (hb : base ≤ w.heap.size) (hs : s.size ≤ maxLen) : OwnB (Lib.bytesWorld w e s) base e (.slice (some ⟨w.heap.size, 0, none⟩) s.size (grownCap w s.size 0 e)) (bytesOf s) := by
  have hge := grownCap_ge w s.size 0 e
  have hcm := grownCap_le_maxLen w s.size 0 e hs
  have hsz : (Lib.bytesCells w e s).size = grownCap w s.size 0 e := by
    simp only [Lib.bytesCells, Array.size_append, Array.size_map, Array.size_replicate]
    have : s.data.size = s.size := rfl
    omega
  have hl : (bytesOf s).length = s.size := bytesOf_length s
  refine .inr ⟨w.heap.size, _, _, _, by rw [hl], hb, Lib.bytesWorld_at_new w e s, .inr (Nat.le_refl _), by rw [hl]; exact hge, hcm, hsz, ?_⟩
  rw [hl]
  have e1 : (s.data.map fun b => Value.int .u8 b.toNat).toList = nums .u8 (bytesOf s) := by simp [nums, bytesOf]
  have e2 : (nums .u8 (bytesOf s)).length = s.size := by rw [nums_length, hl]
  simp only [Lib.bytesCells, Array.toList_append]
  rw [e1, ← e2]
  exact List.take_left
section
variable {P : Program} {ops : Array Oper} {rest : List Oper} {o : Oper} {a : Act} {Q : Exit → Act → World → Prop} {K : Act → World → Prop}
end
end Go.Proofs.YtimhcpmfhebbhaaDoorW.PrintWords

/-
  Layer 6: the document's forms (cotterref06.Front, Write): the walks. Conditions: the words of data are of 64 bits; for Front, that symbols, code and data may be.
-/
namespace Go.Proofs.YtimhcpmfhebbhaaDoor.M
set_option maxRecDepth 100000
open Go.RowKit Go.Proofs.YtimhcpmfhebbhaaDoorW.PrintWords Go.Proofs.YtimhcpmfhebbhaaDoorW.PrintLast Go.Proofs.YtimhcpmfhebbhaaDoor.Num Go.Proofs.YtimhcpmfhebbhaaDoor.Seven Go.Proofs.YtimhcpmfhebbhaaDoor.Word1 Go.Proofs.YtimhcpmfhebbhaaDoor.Obj
set_option linter.unusedVariables false
set_option linter.unusedSimpArgs false
theorem textL_bs (s : ByteArray) : Bs (textL s) := Bs.append (putL_bs _) (bytesOf_Bs s)
theorem one_bs (n : Int) : Bs [n % 256] := Bs.cons (by omega) (by omega) Bs.nil
theorem symL_bs (s : S68) : Bs (symL s) := Bs.append (Bs.append (textL_bs _) (one_bs _)) (putL_bs _)
theorem flat_bs {α : Type} (f : α → List Int) (hf : ∀ x, Bs (f x)) : ∀ l : List α, Bs (l.flatMap f)
  | [] => Bs.nil
  | x :: l => by
    rw [List.flatMap_cons]
    exact Bs.append (hf x) (flat_bs f hf l)
theorem below_in {w W w1 : World} (h : Below w.heap.size w W) (k : Below W.heap.size W w1) : Below w.heap.size w w1 := below_then h h.size k
end Go.Proofs.YtimhcpmfhebbhaaDoor.M

-- Written by a program of this session (wip/ownprint.py) over the translation. Lean checks it.
namespace Go.Proofs.YtimhcpmfhebbhaaDoor.M
open Go.RowKit Go.Proofs.YtimhcpmfhebbhaaDoorW.PrintWords Go.Proofs.YtimhcpmfhebbhaaDoorW.PrintLast
set_option linter.unusedVariables false
set_option linter.unusedSimpArgs false

/-- A state of type 88 at block g of W; what its slices lead to came in by w0. -/
def IsS88 (w0 W : World) (g : Nat) (f0 : ByteArray) (f1 : Int) (f2 : Bool) : Prop := W.heap[g]? = some (.cells #[.string f0, .int .i64 f1, .bool f2] 88 (0, 0)) ∧ w0.heap.size ≤ g
theorem IsS88.grown {w0 W : World} {g : Nat} {f0 : ByteArray} {f1 : Int} {f2 : Bool} {W1 : World} {row : Option Nat} (h : IsS88 w0 W g f0 f1 f2) (hw : W.grownBy W1 row) (hne : some g ≠ row) : IsS88 w0 W1 g f0 f1 f2 := by
  obtain ⟨hb, hg⟩ := h
  exact ⟨blk_grown hb hw hne, hg⟩
theorem IsS88.kept {w0 W : World} {g : Nat} {f0 : ByteArray} {f1 : Int} {f2 : Bool} {W1 : World} {S : Nat → Prop} (h : IsS88 w0 W g f0 f1 f2) (hk : Kept W W1 S) (hne : ¬ S g) : IsS88 w0 W1 g f0 f1 f2 := by
  obtain ⟨hb, hg⟩ := h
  exact ⟨blk_kept hb hk hne, hg⟩
theorem IsS88.below {w0 W : World} {g : Nat} {f0 : ByteArray} {f1 : Int} {f2 : Bool} {W1 : World} (h : IsS88 w0 W g f0 f1 f2) (hw : Below W.heap.size W W1) : IsS88 w0 W1 g f0 f1 f2 := h.grown (grown_of_below hw none) (by simp)
theorem IsS88.alloc {w0 W : World} {g : Nat} {f0 : ByteArray} {f1 : Int} {f2 : Bool} (h : IsS88 w0 W g f0 f1 f2) (o : Obj) : IsS88 w0 (W.alloc o) g f0 f1 f2 := h.below (below_alloc (Below.refl _ _) o)
theorem IsS88.drewN {w0 W : World} {g : Nat} {f0 : ByteArray} {f1 : Int} {f2 : Bool} (h : IsS88 w0 W g f0 f1 f2) (m : Nat) : IsS88 w0 (W.drewN m) g f0 f1 f2 := h
theorem IsS88.drew {w0 W : World} {g : Nat} {f0 : ByteArray} {f1 : Int} {f2 : Bool} (h : IsS88 w0 W g f0 f1 f2) : IsS88 w0 W.drew g f0 f1 f2 := h
theorem IsS88.at_ {w0 W : World} {g : Nat} {f0 : ByteArray} {f1 : Int} {f2 : Bool} {w' : World} {m : Nat} (hq : W.drewN m = w') (h : IsS88 w0 W g f0 f1 f2) : IsS88 w0 w' g f0 f1 f2 := by subst hq; exact IsS88.drewN h m
theorem IsS88.apart {w0 W : World} {g : Nat} {f0 : ByteArray} {f1 : Int} {f2 : Bool} {α : Type} {d : Kd α} {e : Nat} {base : Nat} {ok : Nat → Prop} {v : Value} {xs : List α} (h : IsS88 w0 W g f0 f1 f2) (ho : d.R e W base ok v xs) (ht : ∀ q, q ∈ e :: d.E → q ≠ 88) : d.R e W base (fun k => ok k ∧ k ≠ g) v xs := by
  obtain ⟨hb, hg⟩ := h
  exact Kd.R_types ho hb ht
theorem IsS88.own_ne {w0 W : World} {g : Nat} {f0 : ByteArray} {f1 : Int} {f2 : Bool} {α : Type} {d : Kd α} {e : Nat} {base : Nat} {ok : Nat → Prop} {v : Value} {xs : List α} (h : IsS88 w0 W g f0 f1 f2) (ho : d.R e W base ok v xs) (ht : e ≠ 88) : some g ≠ v.ownBlock := by
  obtain ⟨hb, hg⟩ := h
  exact Kd.R_ne ho hb ht
theorem IsS88.far {w0 W : World} {g : Nat} {f0 : ByteArray} {f1 : Int} {f2 : Bool} {p : Addr} (h : IsS88 w0 W g f0 f1 f2) (hne : g ≠ p.block) (u : Value) : IsS88 w0 (W.setCell p u) g f0 f1 f2 := by
  obtain ⟨hb, hg⟩ := h
  exact ⟨blk_far hb hne u, hg⟩
theorem IsS88.new (w0 W : World) (f0 : ByteArray) (f1 : Int) (f2 : Bool) (hB : Below w0.heap.size w0 W) : IsS88 w0 (W.alloc (.cells #[.string f0, .int .i64 f1, .bool f2] 88)) W.heap.size f0 f1 f2 := ⟨by simpa using heap_alloc_new W _, hB.size⟩

/-! ### cotterref06_Reader_Bytes: function 61 -/
/-! ### cotterref06_Reader_Number: function 62 -/
/-! ### cotterref06_Reader_Wide: function 63 -/
/-! ### cotterref06_Reader_One: function 64 -/
end Go.Proofs.YtimhcpmfhebbhaaDoor.M

namespace Go.Proofs.YtimhcpmfhebbhaaDoor.M
end Go.Proofs.YtimhcpmfhebbhaaDoor.M
/-
  Layer 6: reading, as plain functions of places; the document's Reader answers by them. Plain; no condition but that a text has at most 2^48 bytes.
-/
namespace Go.Proofs.YtimhcpmfhebbhaaDoor.M
set_option maxRecDepth 100000
open Go.RowKit Go.Proofs.YtimhcpmfhebbhaaDoorW.PrintWords Go.Proofs.YtimhcpmfhebbhaaDoor.Num Go.Proofs.YtimhcpmfhebbhaaDoor.Seven Go.Proofs.YtimhcpmfhebbhaaDoor.Word1 Go.Proofs.YtimhcpmfhebbhaaDoor.Obj
set_option linter.unusedVariables false
set_option linter.unusedSimpArgs false
theorem takeR_ok {s : ByteArray} {p : Nat} (h : (takeR s p).2.2 = 0) (hp : p ≤ s.size) : ∃ q : Nat, (takeR s p).2.1 = (q : Int) ∧ p < q ∧ q ≤ s.size ∧ 0 ≤ (takeR s p).1 ∧ (takeR s p).1 < 18446744073709551616 ∧ (bytesOf s).drop p = putL (takeR s p).1.toNat ++ (bytesOf s).drop q := by
  unfold takeR at *
  rw [if_neg (by omega)] at *
  simp only [Int.toNat_natCast] at *
  cases e : takeL ((bytesOf s).drop p) 0 with
  | none => rw [e] at h; simp at h
  | some t =>
    rw [e] at h
    obtain ⟨v, n⟩ := t
    obtain ⟨h1, h2, h3, h4, h5⟩ := takeL_some _ _ _ ((bytesOf_Bs s).drop p) e
    rw [List.length_drop, bytesOf_length] at h2
    dsimp only at *
    refine ⟨p + n, by omega, by omega, by omega, h3, by simpa using h4, ?_⟩
    have := List.take_append_drop n ((bytesOf s).drop p)
    rw [h5, List.drop_drop] at this
    exact this.symm
def numA (s : ByteArray) (most : Int) (p : Nat) : Option (Int × Nat) := if (takeR s p).2.2 = 0 ∧ (takeR s p).1 ≤ most then some ((takeR s p).1, (takeR s p).2.1.toNat) else none
def bytesA (s : ByteArray) (n p : Nat) : Option (ByteArray × Nat) := if p + n ≤ s.size then some (s.extract p (p + n), p + n) else none
def oneA (s : ByteArray) (p : Nat) : Option (Int × Nat) := if p < s.size then some (bt s p, p + 1) else none
def wideA (s : ByteArray) (p : Nat) : Option (Int × Nat) := (bytesA s 8 p).map fun x => ((numR x.1).1, x.2)
def textA (s : ByteArray) (most : Int) (p : Nat) : Option (ByteArray × Nat) := (numA s most p).bind fun a => bytesA s a.1.toNat a.2
def manyA {α : Type} (q : Nat → Option (α × Nat)) : Nat → Nat → Option (List α × Nat)
  | 0, p => some ([], p)
  | n + 1, p => (q p).bind fun x => (manyA q n x.2).map fun y => (x.1 :: y.1, y.2)
def listA {α : Type} (s : ByteArray) (most : Int) (q : Nat → Option (α × Nat)) (p : Nat) : Option (List α × Nat) := (numA s most p).bind fun a => manyA q a.1.toNat a.2
def symA (s : ByteArray) (p : Nat) : Option (S68 × Nat) := (textA s 28 p).bind fun a => (oneA s a.2).bind fun b => (numA s 65536 b.2).bind fun c => some (⟨a.1, b.1, c.1⟩, c.2)
def frontA (s mark : ByteArray) (p : Nat) : Option (ByteArray × List Int × List S68 × Nat) := (bytesA s 4 p).bind fun m => if m.1 = mark then (textA s 65536 m.2).bind fun c => (listA s 4096 (wideA s) c.2).bind fun d => (listA s 1000 (symA s) d.2).bind fun y => some (c.1, d.1, y.1, y.2) else none
theorem numA_ok {s : ByteArray} {most : Int} {p : Nat} {n : Int} {q : Nat} (h : numA s most p = some (n, q)) (hp : p ≤ s.size) : p < q ∧ q ≤ s.size ∧ 0 ≤ n ∧ n ≤ most ∧ n < 18446744073709551616 ∧ (bytesOf s).drop p = putL n.toNat ++ (bytesOf s).drop q ∧ takeR s p = (n, (q : Int), 0) := by
  unfold numA at h
  split at h
  · next c =>
    obtain ⟨q', e, h1, h2, h3, h4, h5⟩ := takeR_ok c.1 hp
    obtain ⟨rfl, rfl⟩ := Prod.mk.inj (Option.some.inj h)
    rw [e, Int.toNat_natCast]
    exact ⟨h1, h2, h3, c.2, h4, h5, by rw [← e, ← c.1]⟩
  · cases h
theorem bytesA_ok {s : ByteArray} {n p : Nat} {x : ByteArray} {q : Nat} (h : bytesA s n p = some (x, q)) : q = p + n ∧ q ≤ s.size ∧ x = s.extract p (p + n) ∧ x.size = n := by
  unfold bytesA at h
  split at h
  · next c =>
    obtain ⟨rfl, rfl⟩ := Prod.mk.inj (Option.some.inj h)
    exact ⟨rfl, c, rfl, by simp [ByteArray.size_extract]; omega⟩
  · cases h
/-- A step of the document's Reader: what lacks is told by a mark that stays. -/
def rr {α : Type} (d : α) (o : Option (α × Nat)) (p : Nat) (bad : Bool) : α × Nat × Bool := if bad then (d, p, true) else match o with | some (n, q) => (n, q, false) | none => (d, p, true)
@[simp] theorem rr_true {α : Type} (d : α) (o : Option (α × Nat)) (p : Nat) : rr d o p true = (d, p, true) := rfl
@[simp] theorem rr_none {α : Type} (d : α) (p : Nat) : rr d none p false = (d, p, true) := rfl
@[simp] theorem rr_some {α : Type} (d : α) (x : α × Nat) (p : Nat) : rr d (some x) p false = (x.1, x.2, false) := rfl
theorem oneA_ok {s : ByteArray} {p : Nat} {n : Int} {q : Nat} (h : oneA s p = some (n, q)) : q = p + 1 ∧ q ≤ s.size ∧ n = bt s p ∧ 0 ≤ n ∧ n < 256 := by
  unfold oneA at h
  split at h
  · next c =>
    obtain ⟨rfl, rfl⟩ := Prod.mk.inj (Option.some.inj h)
    have := bytesOf_Bs s (bt s p) (by have := bt_drop s p c; exact List.mem_of_mem_drop (by rw [this]; simp))
    exact ⟨rfl, by omega, rfl, this.1, this.2⟩
  · cases h
theorem wideA_ok {s : ByteArray} {p : Nat} {n : Int} {q : Nat} (h : wideA s p = some (n, q)) : q = p + 8 ∧ q ≤ s.size ∧ n = (numR (s.extract p (p + 8))).1 ∧ (s.extract p (p + 8)).size = 8 := by
  unfold wideA at h
  obtain ⟨x, hx, e⟩ := Option.map_eq_some_iff.1 h
  obtain ⟨h1, h2, h3, h4⟩ := bytesA_ok (x := x.1) (q := x.2) (by rw [hx])
  obtain ⟨rfl, rfl⟩ := Prod.mk.inj e
  rw [← h3]
  exact ⟨h1, h2, rfl, h4⟩
theorem extract_one (s : ByteArray) (p : Nat) (h : p + 1 ≤ s.size) : bt (s.extract p (p + 1)) 0 = bt s p := by
  have h1 := bt_drop s p h
  have h2 := bt_drop (s.extract p (p + 1)) 0 (by simp [ByteArray.size_extract]; omega)
  have h3 : bytesOf (s.extract p (p + 1)) = ((bytesOf s).drop p).take 1 := by
    simp [bytesOf, ByteArray.data_extract, List.map_take, List.map_drop]
  rw [h3, h1] at h2
  simpa using h2.symm
/-- A round of a reading loop. -/
theorem many_step {α : Type} {q : Nat → Option (α × Nat)} {p p' : Nat} {x : α} {bad : Bool} (h : q p = bif bad then none else some (x, p')) (m : Nat) (acc : List α) :
    ((manyA q (m + 1) p).map fun y => (acc ++ y.1, y.2)) = bif bad then none else ((manyA q m p').map fun y => ((acc ++ [x]) ++ y.1, y.2)) := by
  rw [manyA, h]
  cases bad
  · simp [Option.map_map, Function.comp_def]
  · simp
theorem toList_inj {a b : ByteArray} (h : a.toList = b.toList) : a = b := by
  rw [ByteArray.toList_eq, ByteArray.toList_eq] at h
  exact ByteArray.ext (Array.toList_inj.mp h)
end Go.Proofs.YtimhcpmfhebbhaaDoor.M

/-
  Layer 6: the memory of a reading under way (an object's block, one more block, the object's rows), and what an object's form reads as. Plain words.
-/
namespace Go.Proofs.YtimhcpmfhebbhaaDoor.M
set_option maxRecDepth 100000
open Go.RowKit Go.Proofs.YtimhcpmfhebbhaaDoorW.PrintWords Go.Proofs.YtimhcpmfhebbhaaDoor.Num Go.Proofs.YtimhcpmfhebbhaaDoor.Seven Go.Proofs.YtimhcpmfhebbhaaDoor.Word1 Go.Proofs.YtimhcpmfhebbhaaDoor.Obj
set_option linter.unusedVariables false
set_option linter.unusedSimpArgs false
def relA (s : ByteArray) (p : Nat) : Option (S116 × Nat) := (numA s 65536 p).bind fun a => (oneA s a.2).bind fun b => (textA s 28 b.2).bind fun c => (wideA s c.2).bind fun d => some (⟨a.1, b.1, c.1, d.1⟩, d.2)
abbrev COT1s : ByteArray := ⟨#[67, 79, 84, 49]⟩
/-- The object of a text's bytes. -/
def readA (s : ByteArray) : Option (ByteArray × List Int × List S68 × List S116) := (frontA s COT1s 0).bind fun a => (listA s 8000 (relA s) a.2.2.2).bind fun r =>
  if r.2 = s.size ∧ may a.1 a.2.1 a.2.2.1 r.1 = true then some (a.1, a.2.1, a.2.2.1, r.1) else none
def readF (s : ByteArray) : ByteArray × List Int × List S68 × List S116 × Int := match readA s with | some x => (x.1, x.2.1, x.2.2.1, x.2.2.2, 0) | none => (⟨#[]⟩, [], [], [], 9)
/-- The memory of a reading under way: the object's block h, one more block x, the object's rows; blocks from B on are none of them. -/
structure Held (w W : World) (B h x : Nat) (cs xs : Array Value) (xt : TypeId) (v1 : Value) (d : List Int) (v2 : Value) (y : List S68) (v3 : Value) (r : List S116) : Prop where
  below : Below w.heap.size w W
  obj : W.heap[h]? = some (.cells cs 74 (0, 0))
  more : W.heap[x]? = some (.cells xs xt (0, 0))
  r1 : Kd.R (Kd.int .i64) 2 W w.heap.size (fun k => k < B) v1 d
  r2 : Kd.R k68 68 W w.heap.size (fun k => k < B) v2 y
  r3 : Kd.R k116 116 W w.heap.size (fun k => k < B) v3 r
  lt : B ≤ W.heap.size
  hh : w.heap.size ≤ h ∧ h < B ∧ w.heap.size ≤ x ∧ x < B ∧ h ≠ x
  ht : xt ≠ 2 ∧ xt ≠ 68 ∧ xt ≠ 116
theorem mem_one {t q : Nat} {l : List Nat} (hl : l = []) (h : q ∈ t :: l) : q = t := by subst hl; simpa using h
section
variable {w W W' : World} {B h x : Nat} {cs xs : Array Value} {xt : TypeId} {v1 v2 v3 : Value} {d : List Int} {y : List S68} {r : List S116}
theorem Held.keep (H : Held w W B h x cs xs xt v1 d v2 y v3 r) {g gt : Nat} {gs : Array Value} (hk : KeepBut W W' g none) (hb : Below w.heap.size w W') (hgh : h ≠ g) (hgx : x ≠ g) (hg : W.heap[g]? = some (.cells gs gt (0, 0))) (hgt : gt ≠ 2 ∧ gt ≠ 68 ∧ gt ≠ 116) : Held w W' B h x cs xs xt v1 d v2 y v3 r where
  below := hb
  obj := hk.blk H.obj hgh (by simp)
  more := hk.blk H.more hgx (by simp)
  r1 := Kd.R_mono (Kd.R_keep (Kd.R_types H.r1 hg (fun q hq => by rw [mem_one rfl hq]; exact fun e => hgt.1 e.symm)) hk (fun _ h => h.2)) (fun _ h => h.1)
  r2 := Kd.R_mono (Kd.R_keep (Kd.R_types H.r2 hg (fun q hq => by rw [mem_one rfl hq]; exact fun e => hgt.2.1 e.symm)) hk (fun _ h => h.2)) (fun _ h => h.1)
  r3 := Kd.R_mono (Kd.R_keep (Kd.R_types H.r3 hg (fun q hq => by rw [mem_one rfl hq]; exact fun e => hgt.2.2 e.symm)) hk (fun _ h => h.2)) (fun _ h => h.1)
  lt := Nat.le_trans H.lt hk.1
  hh := H.hh
  ht := H.ht
theorem Held.next (H : Held w W B h x cs xs xt v1 d v2 y v3 r) (hb : Below W.heap.size W W') : Held w W' B h x cs xs xt v1 d v2 y v3 r where
  below := below_then H.below H.below.size hb
  obj := blk_below H.obj hb
  more := blk_below H.more hb
  r1 := Kd.R_below H.r1 hb
  r2 := Kd.R_below H.r2 hb
  r3 := Kd.R_below H.r3 hb
  lt := Nat.le_trans H.lt hb.size
  hh := H.hh
  ht := H.ht
theorem Held.far (H : Held w W B h x cs xs xt v1 d v2 y v3 r) {p : Addr} (hp : B ≤ p.block) (u : Value) : Held w (W.setCell p u) B h x cs xs xt v1 d v2 y v3 r where
  below := Below.setCell H.below (by have := H.hh; omega) u
  obj := blk_far H.obj (by have := H.hh; omega) u
  more := blk_far H.more (by have := H.hh; omega) u
  r1 := Kd.R_far H.r1 (fun k hk => by omega) u
  r2 := Kd.R_far H.r2 (fun k hk => by omega) u
  r3 := Kd.R_far H.r3 (fun k hk => by omega) u
  lt := by have := H.lt; simpa [World.setCell] using this
  hh := H.hh
  ht := H.ht
theorem Held.up (H : Held w W B h x cs xs xt v1 d v2 y v3 r) {B' : Nat} (hB : B ≤ B') (hB' : B' ≤ W.heap.size) : Held w W B' h x cs xs xt v1 d v2 y v3 r where
  below := H.below
  obj := H.obj
  more := H.more
  r1 := Kd.R_mono H.r1 (fun k hk => by omega)
  r2 := Kd.R_mono H.r2 (fun k hk => by omega)
  r3 := Kd.R_mono H.r3 (fun k hk => by omega)
  lt := hB'
  hh := by have := H.hh; omega
  ht := H.ht
theorem Held.put (H : Held w W B h x cs xs xt v1 d v2 y v3 r) {cs' : Array Value} (i : Nat) (u : Value) (e : cs.setIfInBounds i u = cs') : Held w (W.setCell ⟨h, i, none⟩ u) B h x cs' xs xt v1 d v2 y v3 r where
  below := Below.setCell H.below (by have := H.hh; simp; omega) u
  obj := blk_put H.obj i u e
  more := blk_far H.more (by have := H.hh; simp; omega) u
  r1 := Kd.R_mono (Kd.R_far (Kd.R_types H.r1 H.obj (fun q hq => by rw [mem_one rfl hq]; decide)) (fun _ h => h.2) u) (fun _ h => h.1)
  r2 := Kd.R_mono (Kd.R_far (Kd.R_types H.r2 H.obj (fun q hq => by rw [mem_one rfl hq]; decide)) (fun _ h => h.2) u) (fun _ h => h.1)
  r3 := Kd.R_mono (Kd.R_far (Kd.R_types H.r3 H.obj (fun q hq => by rw [mem_one rfl hq]; decide)) (fun _ h => h.2) u) (fun _ h => h.1)
  lt := by have := H.lt; simpa [World.setCell] using this
  hh := H.hh
  ht := H.ht
theorem Held.putX (H : Held w W B h x cs xs xt v1 d v2 y v3 r) {xs' : Array Value} (i : Nat) (u : Value) (e : xs.setIfInBounds i u = xs') : Held w (W.setCell ⟨x, i, none⟩ u) B h x cs xs' xt v1 d v2 y v3 r where
  below := Below.setCell H.below (by have := H.hh; simp; omega) u
  obj := blk_far H.obj (by have := H.hh; simp; omega) u
  more := blk_put H.more i u e
  r1 := Kd.R_mono (Kd.R_far (Kd.R_types H.r1 H.more (fun q hq => by rw [mem_one rfl hq]; exact fun e => H.ht.1 e.symm)) (fun _ h => h.2) u) (fun _ h => h.1)
  r2 := Kd.R_mono (Kd.R_far (Kd.R_types H.r2 H.more (fun q hq => by rw [mem_one rfl hq]; exact fun e => H.ht.2.1 e.symm)) (fun _ h => h.2) u) (fun _ h => h.1)
  r3 := Kd.R_mono (Kd.R_far (Kd.R_types H.r3 H.more (fun q hq => by rw [mem_one rfl hq]; exact fun e => H.ht.2.2 e.symm)) (fun _ h => h.2) u) (fun _ h => h.1)
  lt := by have := H.lt; simpa [World.setCell] using this
  hh := H.hh
  ht := H.ht
theorem R_all {α : Type} {k : Kd α} {e base : Nat} {ok : Nat → Prop} {v : Value} {l : List α} (h : k.R e W base ok v l) : k.R e W base (fun _ => True) v l := Kd.R_mono h (fun _ _ => trivial)
theorem R_in {α : Type} {k : Kd α} {e base : Nat} {ok : Nat → Prop} {v : Value} {l : List α} (h : k.R e W base ok v l) : k.R e W base (fun k => k < W.heap.size) v l := Kd.R_mono (Kd.R_bound h) (fun _ h => h.2.2.1)
/-- One more relocation. -/
theorem Held.more3 (H : Held w W B h x cs xs xt v1 d v2 y v3 r) {v3' : Value} {r' : List S116} {ok : Nat → Prop} (hR : Kd.R k116 116 W' w.heap.size ok v3' r') (hb : Below w.heap.size w W') (hg : W.grownBy W' v3.ownBlock) : Held w W' W'.heap.size h x cs xs xt v1 d v2 y v3' r' where
  below := hb
  obj := blk_grown H.obj hg (Kd.R_ne H.r3 H.obj (by decide))
  more := blk_grown H.more hg (Kd.R_ne H.r3 H.more (fun e => H.ht.2.2 e.symm))
  r1 := R_in (Kd.R_over' H.r1 (Kd.R_typed H.r3) (fun q hq => by rw [mem_one rfl hq]; decide) hg)
  r2 := R_in (Kd.R_over' H.r2 (Kd.R_typed H.r3) (fun q hq => by rw [mem_one rfl hq]; decide) hg)
  r3 := R_in hR
  lt := Nat.le_refl _
  hh := by have := H.hh; have := H.lt; have := hg.size; omega
  ht := H.ht
theorem Held.more2 (H : Held w W B h x cs xs xt v1 d v2 y v3 r) {v2' : Value} {y' : List S68} {ok : Nat → Prop} (hR : Kd.R k68 68 W' w.heap.size ok v2' y') (hb : Below w.heap.size w W') (hg : W.grownBy W' v2.ownBlock) : Held w W' W'.heap.size h x cs xs xt v1 d v2' y' v3 r where
  below := hb
  obj := blk_grown H.obj hg (Kd.R_ne H.r2 H.obj (by decide))
  more := blk_grown H.more hg (Kd.R_ne H.r2 H.more (fun e => H.ht.2.1 e.symm))
  r1 := R_in (Kd.R_over' H.r1 (Kd.R_typed H.r2) (fun q hq => by rw [mem_one rfl hq]; decide) hg)
  r2 := R_in hR
  r3 := R_in (Kd.R_over' H.r3 (Kd.R_typed H.r2) (fun q hq => by rw [mem_one rfl hq]; decide) hg)
  lt := Nat.le_refl _
  hh := by have := H.hh; have := H.lt; have := hg.size; omega
  ht := H.ht
theorem Held.more1 (H : Held w W B h x cs xs xt v1 d v2 y v3 r) {v1' : Value} {d' : List Int} {ok : Nat → Prop} (hR : Kd.R (Kd.int .i64) 2 W' w.heap.size ok v1' d') (hb : Below w.heap.size w W') (hg : W.grownBy W' v1.ownBlock) : Held w W' W'.heap.size h x cs xs xt v1' d' v2 y v3 r where
  below := hb
  obj := blk_grown H.obj hg (Kd.R_ne H.r1 H.obj (by decide))
  more := blk_grown H.more hg (Kd.R_ne H.r1 H.more (fun e => H.ht.1 e.symm))
  r1 := R_in hR
  r2 := R_in (Kd.R_over' H.r2 (Kd.R_typed H.r1) (fun q hq => by rw [mem_one rfl hq]; decide) hg)
  r3 := R_in (Kd.R_over' H.r3 (Kd.R_typed H.r1) (fun q hq => by rw [mem_one rfl hq]; decide) hg)
  lt := Nat.le_refl _
  hh := by have := H.hh; have := H.lt; have := hg.size; omega
  ht := H.ht
end
end Go.Proofs.YtimhcpmfhebbhaaDoor.M

/-
  Layer 8, plain: the mark of an object. No condition.
-/
namespace Go.Proofs.YtimhcpmfhebbhaaDoor.M
set_option maxRecDepth 100000
open Go.RowKit Go.Proofs.YtimhcpmfhebbhaaDoorW.PrintWords Go.Proofs.YtimhcpmfhebbhaaDoor.Num Go.Proofs.YtimhcpmfhebbhaaDoor.Seven Go.Proofs.YtimhcpmfhebbhaaDoor.Word1 Go.Proofs.YtimhcpmfhebbhaaDoor.Obj
theorem cot_bs : Bs COT1 := by
  intro b hb
  simp only [COT1, List.mem_cons, List.not_mem_nil, or_false] at hb
  omega
end Go.Proofs.YtimhcpmfhebbhaaDoor.M

/-
  Layer 6: plain: what is written reads as it was. (Of the object's form with anything behind it.)
-/
namespace Go.Proofs.YtimhcpmfhebbhaaDoor.M
set_option maxRecDepth 100000
open Go.RowKit Go.Proofs.YtimhcpmfhebbhaaDoorW.PrintWords Go.Proofs.YtimhcpmfhebbhaaDoor.Num Go.Proofs.YtimhcpmfhebbhaaDoor.Seven Go.Proofs.YtimhcpmfhebbhaaDoor.Word1 Go.Proofs.YtimhcpmfhebbhaaDoor.Obj
set_option linter.unusedVariables false
set_option linter.unusedSimpArgs false
theorem drop_len {s : ByteArray} {p : Nat} {a r : List Int} (h : (bytesOf s).drop p = a ++ r) (ha : 0 < a.length) : p + a.length ≤ s.size ∧ (bytesOf s).drop (p + a.length) = r := by
  have h1 := congrArg List.length h
  rw [List.length_drop, bytesOf_length, List.length_append] at h1
  refine ⟨by omega, ?_⟩
  rw [← List.drop_drop, h, List.drop_left]
theorem drop_len' {s : ByteArray} {p : Nat} {a r : List Int} (hp : p ≤ s.size) (h : (bytesOf s).drop p = a ++ r) : p + a.length ≤ s.size ∧ (bytesOf s).drop (p + a.length) = r := by
  have h1 := congrArg List.length h
  rw [List.length_drop, bytesOf_length, List.length_append] at h1
  refine ⟨by omega, ?_⟩
  rw [← List.drop_drop, h, List.drop_left]
theorem numA_put {s : ByteArray} {most : Int} {p u : Nat} {r : List Int} (h : (bytesOf s).drop p = putL u ++ r) (hm : (u : Int) ≤ most) (hu : u < 18446744073709551616) : numA s most p = some ((u : Int), p + (putL u).length) := by
  have hp := (drop_len h (putL_pos u)).1
  have e : takeR s p = ((u : Int), (p : Int) + ((putL u).length : Nat), 0) := by
    unfold takeR
    rw [if_neg (by omega), Int.toNat_natCast, h, takeL_putL u u 0 r (Nat.le_refl _) (by simpa using hu) (Or.inl rfl)]
  unfold numA
  rw [e]
  dsimp only
  rw [if_pos ⟨rfl, hm⟩, show ((p : Int) + ((putL u).length : Nat)).toNat = p + (putL u).length by omega]
theorem bytesOf_extract (s : ByteArray) (p n : Nat) : bytesOf (s.extract p (p + n)) = ((bytesOf s).drop p).take n := by
  simp [bytesOf, ByteArray.data_extract, List.map_take, List.map_drop]
theorem bytesA_put {s x : ByteArray} {p : Nat} {r : List Int} (hp : p ≤ s.size) (h : (bytesOf s).drop p = bytesOf x ++ r) : bytesA s x.size p = some (x, p + x.size) := by
  have h1 := drop_len' hp h
  rw [bytesOf_length] at h1
  unfold bytesA
  rw [if_pos h1.1]
  have e : s.extract p (p + x.size) = x := by
    apply bytesOf_inj
    rw [bytesOf_extract, h, ← bytesOf_length x, List.take_left]
  rw [e]
theorem oneA_put {s : ByteArray} {p : Nat} {b : Int} {r : List Int} (h : (bytesOf s).drop p = b :: r) : oneA s p = some (b, p + 1) := by
  have h1 := (drop_len (a := [b]) (r := r) h (by simp)).1
  simp only [List.length_singleton] at h1
  have h2 := bt_drop s p (by omega)
  rw [h] at h2
  unfold oneA
  rw [if_pos (by omega), ← (List.cons.inj h2).1]
theorem wideA_put {s : ByteArray} {p : Nat} {n : Int} {r : List Int} (h : (bytesOf s).drop p = leL n 8 ++ r) (h0 : -9223372036854775808 ≤ n) (h1 : n < 9223372036854775808) : wideA s p = some (n, p + 8) := by
  have hl := (drop_len h (by rw [leL_len]; omega)).1
  rw [leL_len] at hl
  have hb : bytesA s 8 p = some (strOfNums (leL n 8), p + 8) := by
    have hz : (strOfNums (leL n 8)).size = 8 := by rw [str_size _ (leL_bs _ _), leL_len]
    have := bytesA_put (s := s) (x := strOfNums (leL n 8)) (p := p) (r := r) (by omega) (by rw [bytesOf_str (leL_bs _ _)]; exact h)
    rw [hz] at this
    exact this
  unfold wideA
  rw [hb]
  have hn := num_bytes n 8 h0 h1 (Or.inr (Or.inr rfl))
  have e : (bytesR n 8).1 = strOfNums (leL n 8) := by
    unfold bytesR
    rw [if_pos (Or.inr (Or.inr rfl))]
    rfl
  rw [e] at hn
  simp [hn]
theorem textA_put {s x : ByteArray} {most : Int} {p : Nat} {r : List Int} (h : (bytesOf s).drop p = textL x ++ r) (hm : (x.size : Int) ≤ most) (hx : x.size < 18446744073709551616) : textA s most p = some (x, p + (textL x).length) := by
  unfold textL at *
  rw [List.append_assoc] at h
  have h1 := drop_len h (putL_pos _)
  unfold textA
  rw [numA_put h hm hx, Option.bind_some]
  dsimp only
  rw [Int.toNat_natCast, bytesA_put h1.1 h1.2, List.length_append, bytesOf_length, Nat.add_assoc]
theorem textL_pos (x : ByteArray) : 0 < (textL x).length := by
  unfold textL
  rw [List.length_append]
  have := putL_pos x.size
  omega
theorem symA_put {s : ByteArray} {y : S68} {p : Nat} {r : List Int} (h : (bytesOf s).drop p = symL y ++ r) (hn : named y.f0) (h0 : 0 ≤ y.f2) (h1 : y.f2 < 65536) (hk : y.f1 = 1 ∨ y.f1 = 2 ∨ y.f1 = 3) : symA s p = some (y, p + (symL y).length) := by
  obtain ⟨y0, y1, y2⟩ := y
  dsimp only at *
  unfold symL at *
  dsimp only at *
  rw [List.append_assoc, List.append_assoc] at h
  have a1 := drop_len h (textL_pos _)
  have a2 := drop_len a1.2 (by simp)
  simp only [List.length_singleton] at *
  have hkk : y1 % 256 = y1 := by omega
  unfold symA
  rw [textA_put h (by have := hn.2; omega) (by have := hn.2; omega), Option.bind_some]
  dsimp only
  have a3 := a1.2
  rw [List.singleton_append] at a3
  rw [oneA_put a3, Option.bind_some]
  dsimp only
  rw [numA_put a2.2 (by omega) (by omega), Option.bind_some, hkk, Int.toNat_of_nonneg h0]
  simp [Nat.add_assoc]
  omega
theorem relA_put {s : ByteArray} {y : S116} {p : Nat} {r : List Int} (h : (bytesOf s).drop p = relL y ++ r) (hn : named y.f2) (h0 : 0 ≤ y.f0) (h1 : y.f0 < 65536) (hk : y.f1 = 1 ∨ y.f1 = 2) (h2 : -9223372036854775808 ≤ y.f3) (h3 : y.f3 < 9223372036854775808) : relA s p = some (y, p + (relL y).length) := by
  obtain ⟨y0, y1, y2, y3⟩ := y
  dsimp only at *
  unfold relL at *
  dsimp only at *
  rw [List.append_assoc, List.append_assoc, List.append_assoc] at h
  have a1 := drop_len h (putL_pos _)
  have a2 := drop_len a1.2 (by simp)
  have a3 := drop_len a2.2 (textL_pos _)
  simp only [List.length_singleton] at *
  have hkk : y1 % 256 = y1 := by omega
  unfold relA
  rw [numA_put h (by omega) (by omega), Option.bind_some]
  dsimp only
  have a4 := a1.2
  rw [List.singleton_append] at a4
  rw [oneA_put a4, Option.bind_some]
  dsimp only
  rw [textA_put a2.2 (by have := hn.2; omega) (by have := hn.2; omega), Option.bind_some]
  dsimp only
  rw [wideA_put a3.2 h2 h3, Option.bind_some, hkk, Int.toNat_of_nonneg h0]
  simp [Nat.add_assoc, leL_len]
  omega
theorem manyA_put {α : Type} {s : ByteArray} {q : Nat → Option (α × Nat)} {enc : α → List Int} {ok : α → Prop} (hq : ∀ x p r, ok x → p ≤ s.size → (bytesOf s).drop p = enc x ++ r → q p = some (x, p + (enc x).length)) : ∀ (l : List α) (p : Nat) (r : List Int), (∀ x ∈ l, ok x) → p ≤ s.size → (bytesOf s).drop p = l.flatMap enc ++ r → manyA q l.length p = some (l, p + (l.flatMap enc).length) := by
  intro l
  induction l with
  | nil => intro p r _ _ _; simp [manyA]
  | cons x l ih =>
    intro p r hok hp h
    rw [List.flatMap_cons, List.append_assoc] at h
    have h1 := drop_len' hp h
    rw [List.length_cons, manyA, hq x p _ (hok x (by simp)) hp h, Option.bind_some]
    dsimp only
    rw [ih _ r (fun y hy => hok y (by simp [hy])) h1.1 h1.2]
    simp [Nat.add_assoc]
theorem listA_put {α : Type} {s : ByteArray} {q : Nat → Option (α × Nat)} {enc : α → List Int} {ok : α → Prop} (hq : ∀ x p r, ok x → p ≤ s.size → (bytesOf s).drop p = enc x ++ r → q p = some (x, p + (enc x).length)) {most : Int} {p : Nat} {l : List α} {r : List Int} (h : (bytesOf s).drop p = putL l.length ++ (l.flatMap enc ++ r)) (hl : (l.length : Int) ≤ most) (hm : most < 18446744073709551616) (hok : ∀ x ∈ l, ok x) :
    listA s most q p = some (l, p + (putL l.length).length + (l.flatMap enc).length) := by
  have h1 := drop_len h (putL_pos _)
  unfold listA
  rw [numA_put h hl (by omega), Option.bind_some]
  dsimp only
  rw [Int.toNat_natCast, manyA_put hq l _ r hok h1.1 h1.2]
theorem parse_form {s code : ByteArray} {data : List Int} {syms : List S68} {rels : List S116} {rest : List Int} (h : bytesOf s = form COT1 code data syms rels ++ rest) (hm : may code data syms rels = true) (hw : wordsOk data) :
    frontA s COT1s 0 = some (code, data, syms, (front COT1 code data syms).length) ∧ listA s 8000 (relA s) (front COT1 code data syms).length = some (rels, (form COT1 code data syms rels).length) := by
  obtain ⟨m1, m2, m3, m4, m5, m6⟩ := may_parts hm
  have h0 : (bytesOf s).drop 0 = bytesOf COT1s ++ (textL code ++ (putL data.length ++ (dataL data ++ (putL syms.length ++ (symsL syms ++ (putL rels.length ++ (relsL rels ++ rest))))))) := by
    rw [List.drop_zero, h]
    unfold form front front1 front0
    rw [show bytesOf COT1s = COT1 from bytesOf_str cot_bs]
    simp only [List.append_assoc]
  have a0 := drop_len' (Nat.zero_le _) h0
  have b0 := bytesA_put (Nat.zero_le _) h0
  rw [bytesOf_length] at a0
  rw [show COT1s.size = 4 from rfl] at a0 b0
  have a1 := drop_len' a0.1 a0.2
  have b1 := textA_put (most := 65536) a0.2 (by omega) (by omega)
  have a2 := drop_len' a1.1 a1.2
  have b2 := listA_put (q := wideA s) (enc := fun n => leL n 8) (ok := fun n => -9223372036854775808 ≤ n ∧ n < 9223372036854775808) (fun x p r hx hp h => by rw [leL_len]; exact wideA_put h hx.1 hx.2) (most := 4096) a1.2 (by omega) (by omega) hw
  have a3 := drop_len' a2.1 a2.2
  have a4 := drop_len' a3.1 a3.2
  have b4 := listA_put (q := symA s) (enc := symL) (ok := fun y => named y.f0 ∧ 0 ≤ y.f2 ∧ y.f2 < 65536 ∧ (y.f1 = 1 ∨ y.f1 = 2 ∨ y.f1 = 3)) (fun x p r hx hp h => symA_put h hx.1 hx.2.1 hx.2.2.1 hx.2.2.2) (most := 1000) a3.2 (by omega) (by omega) m5
  have a5 := drop_len' a4.1 a4.2
  have b5 := listA_put (q := relA s) (enc := relL) (ok := fun y => named y.f2 ∧ 0 ≤ y.f0 ∧ y.f0 < 65536 ∧ (y.f1 = 1 ∨ y.f1 = 2) ∧ -9223372036854775808 ≤ y.f3 ∧ y.f3 < 9223372036854775808) (fun x p r hx hp h => relA_put h hx.1 hx.2.1 hx.2.2.1 hx.2.2.2.1 hx.2.2.2.2.1 hx.2.2.2.2.2) (most := 8000) a5.2 (by omega) (by omega) m6
  have e1 : (front COT1 code data syms).length = 0 + 4 + (textL code).length + (putL data.length).length + (dataL data).length + (putL syms.length).length + (symsL syms).length := by
    unfold front front1 front0
    simp only [List.length_append, show COT1.length = 4 from rfl]
    try omega
  have e2 : (form COT1 code data syms rels).length = (front COT1 code data syms).length + (putL rels.length).length + (relsL rels).length := by
    unfold form
    simp only [List.length_append]
  refine ⟨?_, ?_⟩
  · unfold frontA
    rw [b0, Option.bind_some]
    dsimp only
    rw [if_pos rfl, b1, Option.bind_some]
    dsimp only
    rw [b2, Option.bind_some]
    dsimp only
    rw [show (data.flatMap fun n => leL n 8) = dataL data from rfl, b4, e1]
    rfl
  · rw [e2, e1]
    exact b5
/-- A form, with anything behind it. -/
theorem read_form {s code : ByteArray} {data : List Int} {syms : List S68} {rels : List S116} {rest : List Int} (h : bytesOf s = form COT1 code data syms rels ++ rest) (hm : may code data syms rels = true) (hw : wordsOk data) :
    readA s = if rest = [] then some (code, data, syms, rels) else none := by
  obtain ⟨h1, h2⟩ := parse_form h hm hw
  have hl := congrArg List.length h
  rw [bytesOf_length, List.length_append] at hl
  unfold readA
  rw [h1, Option.bind_some]
  dsimp only
  rw [h2, Option.bind_some]
  dsimp only
  by_cases hr : rest = []
  · subst hr
    rw [if_pos ⟨by simpa using hl.symm, hm⟩, if_pos rfl]
  · have : 0 < rest.length := List.length_pos_iff.mpr hr
    rw [if_neg (by omega), if_neg hr]
/-! ### What is read was written so -/
theorem numA_back {s : ByteArray} {most : Int} {p : Nat} {n : Int} {q : Nat} (h : numA s most p = some (n, q)) (hp : p ≤ s.size) : q ≤ s.size ∧ 0 ≤ n ∧ n ≤ most ∧ (bytesOf s).drop p = putL n.toNat ++ (bytesOf s).drop q := by
  have := numA_ok h hp
  exact ⟨this.2.1, this.2.2.1, this.2.2.2.1, this.2.2.2.2.2.1⟩
theorem bytesA_back {s x : ByteArray} {n p q : Nat} (h : bytesA s n p = some (x, q)) : q ≤ s.size ∧ x.size = n ∧ (bytesOf s).drop p = bytesOf x ++ (bytesOf s).drop q := by
  obtain ⟨rfl, h2, rfl, h4⟩ := bytesA_ok h
  refine ⟨h2, h4, ?_⟩
  rw [bytesOf_extract, ← List.drop_drop, List.take_append_drop]
theorem oneA_back {s : ByteArray} {p : Nat} {n : Int} {q : Nat} (h : oneA s p = some (n, q)) : q ≤ s.size ∧ (bytesOf s).drop p = [n % 256] ++ (bytesOf s).drop q := by
  obtain ⟨rfl, h2, h3, h4, h5⟩ := oneA_ok h
  refine ⟨h2, ?_⟩
  rw [bt_drop s p (by omega), h3, show bt s p % 256 = bt s p by rw [← h3]; omega]
  rfl
theorem leL_wrap (u : Int) : leL (wrap64 u) 8 = leL u 8 := by
  have e : wrap64 u % 18446744073709551616 = u % 18446744073709551616 := by unfold wrap64; omega
  have h1 := leL_mod' (wrap64 u) 8 (by omega)
  have h2 := leL_mod' u 8 (by omega)
  rw [← h1, ← h2, e]
theorem wideA_back {s : ByteArray} {p : Nat} {n : Int} {q : Nat} (h : wideA s p = some (n, q)) : q ≤ s.size ∧ -9223372036854775808 ≤ n ∧ n < 9223372036854775808 ∧ (bytesOf s).drop p = leL n 8 ++ (bytesOf s).drop q := by
  obtain ⟨rfl, h2, h3, h4⟩ := wideA_ok h
  have hb := bytesA_back (s := s) (x := s.extract p (p + 8)) (n := 8) (p := p) (q := p + 8) (by unfold bytesA; rw [if_pos h2])
  have e : (numR (s.extract p (p + 8))).1 = wrap64 (unleL (bytesOf (s.extract p (p + 8)))) := by
    unfold numR
    rw [if_neg (by omega), if_neg (by omega), if_pos h4]
  rw [e] at h3
  subst h3
  have hl := leL_unleL _ (bytesOf_Bs (s.extract p (p + 8)))
  rw [bytesOf_length, h4] at hl
  have hr := wrap64_range (unleL (bytesOf (s.extract p (p + 8))))
  exact ⟨h2, hr.1, hr.2, by rw [leL_wrap, hl]; exact hb.2.2⟩
theorem textA_back {s x : ByteArray} {most : Int} {p q : Nat} (h : textA s most p = some (x, q)) (hp : p ≤ s.size) : q ≤ s.size ∧ (bytesOf s).drop p = textL x ++ (bytesOf s).drop q := by
  unfold textA at h
  obtain ⟨⟨n, r⟩, h1, h2⟩ := Option.bind_eq_some_iff.1 h
  have a := numA_back h1 hp
  have b := bytesA_back h2
  refine ⟨b.1, ?_⟩
  rw [a.2.2.2, b.2.2, ← b.2.1]
  unfold textL
  rw [List.append_assoc]
theorem symA_back {s : ByteArray} {p q : Nat} {y : S68} (h : symA s p = some (y, q)) (hp : p ≤ s.size) : q ≤ s.size ∧ (bytesOf s).drop p = symL y ++ (bytesOf s).drop q := by
  unfold symA at h
  obtain ⟨⟨x1, q1⟩, h1, h⟩ := Option.bind_eq_some_iff.1 h
  obtain ⟨⟨x2, q2⟩, h2, h⟩ := Option.bind_eq_some_iff.1 h
  obtain ⟨⟨x3, q3⟩, h3, h⟩ := Option.bind_eq_some_iff.1 h
  obtain ⟨rfl, rfl⟩ := Prod.mk.inj (Option.some.inj h)
  have a1 := textA_back h1 hp
  have a2 := oneA_back h2
  have a3 := numA_back h3 a2.1
  refine ⟨a3.1, ?_⟩
  rw [a1.2, a2.2, a3.2.2.2]
  simp only [symL, List.append_assoc]
theorem relA_back {s : ByteArray} {p q : Nat} {y : S116} (h : relA s p = some (y, q)) (hp : p ≤ s.size) : q ≤ s.size ∧ (bytesOf s).drop p = relL y ++ (bytesOf s).drop q := by
  unfold relA at h
  obtain ⟨⟨x1, q1⟩, h1, h⟩ := Option.bind_eq_some_iff.1 h
  obtain ⟨⟨x2, q2⟩, h2, h⟩ := Option.bind_eq_some_iff.1 h
  obtain ⟨⟨x3, q3⟩, h3, h⟩ := Option.bind_eq_some_iff.1 h
  obtain ⟨⟨x4, q4⟩, h4, h⟩ := Option.bind_eq_some_iff.1 h
  obtain ⟨rfl, rfl⟩ := Prod.mk.inj (Option.some.inj h)
  have a1 := numA_back h1 hp
  have a2 := oneA_back h2
  have a3 := textA_back h3 a2.1
  have a4 := wideA_back h4
  refine ⟨a4.1, ?_⟩
  rw [a1.2.2.2, a2.2, a3.2, a4.2.2.2]
  simp only [relL, List.append_assoc]
theorem manyA_back {α : Type} {s : ByteArray} {q : Nat → Option (α × Nat)} {enc : α → List Int} {ok : α → Prop} (hq : ∀ x p r, p ≤ s.size → q p = some (x, r) → r ≤ s.size ∧ (bytesOf s).drop p = enc x ++ (bytesOf s).drop r ∧ ok x) : ∀ (n : Nat) (l : List α) (p r : Nat), p ≤ s.size → manyA q n p = some (l, r) → l.length = n ∧ r ≤ s.size ∧ (bytesOf s).drop p = l.flatMap enc ++ (bytesOf s).drop r ∧ ∀ x ∈ l, ok x := by
  intro n
  induction n with
  | zero =>
    intro l p r hp h
    unfold manyA at h
    obtain ⟨rfl, rfl⟩ := Prod.mk.inj (Option.some.inj h)
    exact ⟨rfl, hp, rfl, fun x hx => by cases hx⟩
  | succ n ih =>
    intro l p r hp h
    rw [manyA] at h
    obtain ⟨⟨x, p1⟩, h1, h⟩ := Option.bind_eq_some_iff.1 h
    obtain ⟨⟨l1, p2⟩, h2, h⟩ := Option.map_eq_some_iff.1 h
    obtain ⟨rfl, rfl⟩ := Prod.mk.inj h
    have a := hq x p p1 hp h1
    have b := ih l1 p1 p2 a.1 h2
    refine ⟨by simp [b.1], b.2.1, ?_, ?_⟩
    · rw [a.2.1, b.2.2.1, List.flatMap_cons, List.append_assoc]
    · intro z hz
      rcases List.mem_cons.1 hz with rfl | hz
      · exact a.2.2
      · exact b.2.2.2 z hz
theorem listA_back {α : Type} {s : ByteArray} {q : Nat → Option (α × Nat)} {enc : α → List Int} {ok : α → Prop} (hq : ∀ x p r, p ≤ s.size → q p = some (x, r) → r ≤ s.size ∧ (bytesOf s).drop p = enc x ++ (bytesOf s).drop r ∧ ok x) {most : Int} {l : List α} {p r : Nat} (hp : p ≤ s.size) (h : listA s most q p = some (l, r)) : r ≤ s.size ∧ (bytesOf s).drop p = putL l.length ++ (l.flatMap enc ++ (bytesOf s).drop r) ∧ ∀ x ∈ l, ok x := by
  unfold listA at h
  obtain ⟨⟨n, p1⟩, h1, h2⟩ := Option.bind_eq_some_iff.1 h
  have a := numA_back h1 hp
  have b := manyA_back hq _ _ _ _ a.1 h2
  refine ⟨b.2.1, ?_, b.2.2.2⟩
  rw [a.2.2.2, b.2.2.1, b.1]
theorem read_back {s code : ByteArray} {data : List Int} {syms : List S68} {rels : List S116} (h : readA s = some (code, data, syms, rels)) : bytesOf s = form COT1 code data syms rels ∧ may code data syms rels = true ∧ wordsOk data := by
  unfold readA frontA at h
  obtain ⟨⟨c, d, y, p3⟩, h1, h⟩ := Option.bind_eq_some_iff.1 h
  obtain ⟨⟨r, p4⟩, h2, h⟩ := Option.bind_eq_some_iff.1 h
  obtain ⟨⟨mk, p0⟩, h0, h1⟩ := Option.bind_eq_some_iff.1 h1
  dsimp only at h h1 h2
  split at h
  case isFalse => cases h
  next hc =>
  simp only [Option.some.injEq, Prod.mk.injEq] at h
  obtain ⟨rfl, rfl, rfl, rfl⟩ := h
  split at h1
  case isFalse => cases h1
  next hmk =>
  obtain ⟨⟨c1, p1⟩, e1, h1⟩ := Option.bind_eq_some_iff.1 h1
  obtain ⟨⟨d1, p2⟩, e2, h1⟩ := Option.bind_eq_some_iff.1 h1
  obtain ⟨⟨y1, p3'⟩, e3, h1⟩ := Option.bind_eq_some_iff.1 h1
  simp only [Option.some.injEq, Prod.mk.injEq] at h1
  obtain ⟨rfl, rfl, rfl, rfl⟩ := h1
  subst hmk
  have a0 := bytesA_back h0
  have a1 := textA_back e1 a0.1
  have a2 := listA_back (enc := fun n => leL n 8) (ok := fun n => -9223372036854775808 ≤ n ∧ n < 9223372036854775808) (fun x p r hp h => ⟨(wideA_back h).1, (wideA_back h).2.2.2, (wideA_back h).2.1, (wideA_back h).2.2.1⟩) a1.1 e2
  have a3 := listA_back (enc := symL) (ok := fun _ => True) (fun x p r hp h => ⟨(symA_back h hp).1, (symA_back h hp).2, trivial⟩) a2.1 e3
  have a4 := listA_back (enc := relL) (ok := fun _ => True) (fun x p r hp h => ⟨(relA_back h hp).1, (relA_back h hp).2, trivial⟩) a3.1 h2
  refine ⟨?_, hc.2, a2.2.2⟩
  have hd : (bytesOf s).drop p4 = [] := List.drop_eq_nil_of_le (by rw [bytesOf_length, hc.1]; exact Nat.le_refl _)
  have e0 := a0.2.2
  rw [List.drop_zero] at e0
  rw [e0, a1.2, a2.2.1, a3.2.1, a4.2.1, hd, show bytesOf COT1s = COT1 from bytesOf_str cot_bs]
  unfold form front front1 front0 dataL symsL relsL
  simp only [List.append_assoc, List.append_nil]
end Go.Proofs.YtimhcpmfhebbhaaDoor.M

