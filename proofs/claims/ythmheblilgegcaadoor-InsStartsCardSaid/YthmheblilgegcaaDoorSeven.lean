/-
  Plain lemmas: numbers in groups of seven bits, numbers as bytes, texts made of numbers; no program in sight. No condition.
-/
import Derived.Test.YthmheblilgegcaaDoorNum
namespace Go.Proofs.YthmheblilgegcaaDoor.Seven
open Go.RowKit Go.Proofs.YthmheblilgegcaaDoor.Num Go.Proofs.YthmheblilgegcaaDoorW.PrintWords

/-- All of them are bytes. -/
def Bs (l : List Int) : Prop := ∀ x ∈ l, 0 ≤ x ∧ x < 256

theorem Bs.nil : Bs [] := fun _ h => by cases h
theorem Bs.cons {b : Int} {l : List Int} (h0 : 0 ≤ b) (h1 : b < 256) (h : Bs l) : Bs (b :: l) := by
  intro x hx
  rcases List.mem_cons.1 hx with rfl | hx
  · exact ⟨h0, h1⟩
  · exact h x hx
theorem Bs.append {a b : List Int} (ha : Bs a) (hb : Bs b) : Bs (a ++ b) := by
  intro x hx
  rcases List.mem_append.1 hx with hx | hx
  · exact ha x hx
  · exact hb x hx
theorem Bs.left {a b : List Int} (h : Bs (a ++ b)) : Bs a := fun x hx => h x (List.mem_append_left _ hx)
theorem Bs.right {a b : List Int} (h : Bs (a ++ b)) : Bs b := fun x hx => h x (List.mem_append_right _ hx)
theorem Bs.drop {a : List Int} (h : Bs a) (n : Nat) : Bs (a.drop n) := fun x hx => h x (List.mem_of_mem_drop hx)
theorem Bs.take {a : List Int} (h : Bs a) (n : Nat) : Bs (a.take n) := fun x hx => h x (List.mem_of_mem_take hx)

theorem bytesOf_Bs (s : ByteArray) : Bs (bytesOf s) := by
  intro x hx
  obtain ⟨b, _, rfl⟩ := List.mem_map.1 hx
  have := b.toNat_lt
  omega

theorem ofNat_toNat {x : Int} (h0 : 0 ≤ x) (h1 : x < 256) : ((UInt8.ofNat x.toNat).toNat : Int) = x := by
  rw [UInt8.toNat_ofNat']
  omega

theorem bytesOf_str {l : List Int} (h : Bs l) : bytesOf (strOfNums l) = l := by
  unfold bytesOf
  rw [strOfNums_data, List.map_map]
  conv => rhs; rw [← List.map_id l]
  refine List.map_congr_left fun x hx => ?_
  exact ofNat_toNat (h x hx).1 (h x hx).2

theorem str_bytesOf (s : ByteArray) : strOfNums (bytesOf s) = s := by
  have h : (strOfNums (bytesOf s)).data.toList = s.data.toList := by
    rw [strOfNums_data, bytesOf, List.map_map]
    conv => rhs; rw [← List.map_id s.data.toList]
    refine List.map_congr_left fun x _ => ?_
    simp
  have h2 : (strOfNums (bytesOf s)).data = s.data := Array.toList_inj.1 h
  cases s
  cases hs : strOfNums (bytesOf _)
  rw [hs] at h2
  simp only at h2
  rw [h2]

theorem bytesOf_inj {s t : ByteArray} (h : bytesOf s = bytesOf t) : s = t := by
  rw [← str_bytesOf s, h, str_bytesOf]

theorem bytesOf_append (s t : ByteArray) : bytesOf (s ++ t) = bytesOf s ++ bytesOf t := by
  unfold bytesOf
  rw [ByteArray.data_append, Array.toList_append, List.map_append]

theorem str_append (a b : List Int) : strOfNums a ++ strOfNums b = strOfNums (a ++ b) := by
  have h : (strOfNums a ++ strOfNums b).data = (strOfNums (a ++ b)).data := by
    rw [ByteArray.data_append]
    simp [strOfNums]
  cases h1 : strOfNums a ++ strOfNums b
  cases h2 : strOfNums (a ++ b)
  rw [h1, h2] at h
  simp only at h
  rw [h]

theorem bt_drop (s : ByteArray) (j : Nat) (h : j < s.size) : (bytesOf s).drop j = bt s j :: (bytesOf s).drop (j + 1) := by
  have hl : j < (bytesOf s).length := by rw [bytesOf_length]; exact h
  rw [List.drop_eq_getElem_cons hl, ← rd_bytesOf]
  unfold rd
  rw [Int.toNat_natCast, List.getD_eq_getElem?_getD, List.getElem?_eq_getElem hl]
  rfl

/-! ### groups of seven bits -/
def putL (u : Nat) : List Int := if u < 128 then [(u : Int)] else ((u % 128 + 128 : Nat) : Int) :: putL (u / 128)
termination_by u
decreasing_by omega

theorem putL_small {u : Nat} (h : u < 128) : putL u = [(u : Int)] := by rw [putL, if_pos h]
theorem putL_great {u : Nat} (h : ¬ u < 128) : putL u = ((u % 128 + 128 : Nat) : Int) :: putL (u / 128) := by rw [putL, if_neg h]

theorem putL_Bs : ∀ (n u : Nat), u ≤ n → Bs (putL u) := by
  intro n
  induction n with
  | zero => intro u h; rw [putL_small (by omega)]; exact Bs.nil.cons (by omega) (by omega) |> fun h => h
  | succ n ih =>
    intro u h
    by_cases hu : u < 128
    · rw [putL_small hu]; exact Bs.nil.cons (by omega) (by omega)
    · rw [putL_great hu]; exact (ih _ (by omega)).cons (by omega) (by omega)
theorem putL_bs (u : Nat) : Bs (putL u) := putL_Bs u u (Nat.le_refl _)

theorem putL_len : ∀ (n u : Nat), u < 128 ^ n → (putL u).length ≤ n ∨ n = 0 := by
  intro n
  induction n with
  | zero => intro u _; exact .inr rfl
  | succ n ih =>
    intro u h
    left
    by_cases hu : u < 128
    · rw [putL_small hu]; simp
    · rw [putL_great hu]
      have h2 : u / 128 < 128 ^ n := by rw [Nat.div_lt_iff_lt_mul (by decide)]; rw [Nat.pow_succ] at h; exact h
      rcases ih _ h2 with h3 | h3
      · simp; exact h3
      · subst h3; simp at h; omega
theorem putL_pos (u : Nat) : 0 < (putL u).length := by
  by_cases hu : u < 128
  · rw [putL_small hu]; simp
  · rw [putL_great hu]; simp
theorem putL_ten {u : Nat} (h : u < 18446744073709551616) : (putL u).length ≤ 10 := by
  have : u < 128 ^ 10 := by omega
  rcases putL_len 10 u this with h | h
  · exact h
  · cases h

/-- Reads a number in groups of seven bits, from its group number i on: what it is worth, and how many groups. -/
def takeL : List Int → Nat → Option (Int × Nat)
  | [], _ => none
  | b :: r, i => if i > 9 ∨ (i = 9 ∧ b > 1) ∨ (i > 0 ∧ b = 0) then none else if b < 128 then some (b, 1) else (takeL r (i + 1)).map fun p => (b - 128 + 128 * p.1, p.2 + 1)

theorem takeL_putL : ∀ (n u i : Nat) (r : List Int), u ≤ n → u * 2 ^ (7 * i) < 18446744073709551616 → (i = 0 ∨ 0 < u) → takeL (putL u ++ r) i = some ((u : Int), (putL u).length) := by
  intro n
  induction n with
  | zero =>
    intro u i r h h1 h2
    have hu : u = 0 := by omega
    subst hu
    rw [putL_small (by omega)]
    simp only [List.cons_append, List.nil_append, takeL]
    rw [if_neg (by omega), if_pos (by omega)]
    rfl
  | succ n ih =>
    intro u i r h h1 h2
    have hp : 0 < 2 ^ (7 * i) := Nat.two_pow_pos _
    have hi : i ≤ 9 ∨ u = 0 := by
      by_cases hi : i ≤ 9
      · exact .inl hi
      · right
        have h70 : 2 ^ 70 ≤ 2 ^ (7 * i) := Nat.pow_le_pow_right (by decide) (by omega)
        have e70 : (2 : Nat) ^ 70 = 1180591620717411303424 := by decide
        rw [e70] at h70
        by_cases hu : u = 0
        · exact hu
        · have := Nat.mul_le_mul (show 1 ≤ u by omega) h70
          omega
    have h9 : i = 9 → u ≤ 1 := by
      intro h
      subst h
      have e63 : (2 : Nat) ^ (7 * 9) = 9223372036854775808 := by decide
      rw [e63] at h1
      omega
    by_cases hu : u < 128
    · rw [putL_small hu]
      simp only [List.cons_append, List.nil_append, takeL]
      rw [if_neg (by omega), if_pos (by omega)]
      rfl
    · rw [putL_great hu]
      simp only [List.cons_append, takeL]
      have hn9 : i ≠ 9 := by intro h; have := h9 h; omega
      rw [if_neg (by omega), if_neg (by omega)]
      have e : 2 ^ (7 * (i + 1)) = 128 * 2 ^ (7 * i) := by rw [Nat.mul_add, Nat.pow_add]; omega
      rw [ih (u / 128) (i + 1) r (by omega) (by
        rw [e]
        have := Nat.mul_le_mul_right (2 ^ (7 * i)) (show u / 128 * 128 ≤ u by omega)
        rw [Nat.mul_assoc] at this
        omega) (.inr (by omega))]
      simp only [Option.map_some, List.length_cons, Option.some.injEq, Prod.mk.injEq, and_true]
      omega

/-- What takes something takes it from the front. -/
theorem takeL_some : ∀ (l : List Int) (i : Nat) (p : Int × Nat), Bs l → takeL l i = some p → 0 < p.2 ∧ p.2 ≤ l.length ∧ 0 ≤ p.1 ∧ p.1 * 2 ^ (7 * i) < 18446744073709551616 ∧ l.take p.2 = putL p.1.toNat := by
  intro l
  induction l with
  | nil => intro i p _ h; cases h
  | cons b r ih =>
    intro i p hb h
    have hb0 := hb b (List.mem_cons_self)
    simp only [takeL] at h
    by_cases hc : i > 9 ∨ (i = 9 ∧ b > 1) ∨ (i > 0 ∧ b = 0)
    · rw [if_pos hc] at h; cases h
    · rw [if_neg hc] at h
      have hpow : (2 : Int) ^ (7 * i) ≤ 9223372036854775808 := by
        have h1 : 2 ^ (7 * i) ≤ 2 ^ 63 := Nat.pow_le_pow_right (by decide) (by omega)
        have h2 : ((2 ^ (7 * i) : Nat) : Int) = (2 : Int) ^ (7 * i) := by simp
        have h3 : (2 : Nat) ^ 63 = 9223372036854775808 := by decide
        rw [h3] at h1
        omega
      have hpos : (0 : Int) < 2 ^ (7 * i) := by
        have h1 : 0 < 2 ^ (7 * i) := Nat.two_pow_pos _
        have h2 : ((2 ^ (7 * i) : Nat) : Int) = (2 : Int) ^ (7 * i) := by simp
        omega
      have hpow8 : i ≤ 8 → (2 : Int) ^ (7 * i) ≤ 72057594037927936 := by
        intro h8
        have h1 : 2 ^ (7 * i) ≤ 2 ^ 56 := Nat.pow_le_pow_right (by decide) (by omega)
        have h2 : ((2 ^ (7 * i) : Nat) : Int) = (2 : Int) ^ (7 * i) := by simp
        have h3 : (2 : Nat) ^ 56 = 72057594037927936 := by decide
        rw [h3] at h1
        omega
      by_cases hs : b < 128
      · rw [if_pos hs] at h
        cases h
        refine ⟨by simp, by simp, hb0.1, ?_, ?_⟩
        · simp only
          by_cases h9 : i = 9
          · have hb1 : b ≤ 1 := by omega
            have := Int.mul_le_mul_of_nonneg_right hb1 (show (0 : Int) ≤ 2 ^ (7 * i) by omega)
            omega
          · have hp := hpow8 (by omega)
            have := Int.mul_le_mul_of_nonneg_right (show b ≤ 127 by omega) (show (0 : Int) ≤ 2 ^ (7 * i) by omega)
            omega
        · rw [putL_small (by omega)]
          simp
          omega
      · rw [if_neg hs] at h
        cases ht : takeL r (i + 1) with
        | none => rw [ht] at h; cases h
        | some q =>
          rw [ht] at h
          cases h
          obtain ⟨h1, h2, h3, h4, h5⟩ := ih (i + 1) q (fun x hx => hb x (List.mem_cons_of_mem _ hx)) ht
          have e : (2 : Int) ^ (7 * (i + 1)) = 128 * 2 ^ (7 * i) := by rw [Nat.mul_add, Int.pow_add]; omega
          rw [e] at h4
          have hq : 0 < q.1 := by
            cases r with
            | nil => cases ht
            | cons c r =>
              simp only [takeL] at ht
              by_cases hc2 : i + 1 > 9 ∨ (i + 1 = 9 ∧ c > 1) ∨ (i + 1 > 0 ∧ c = 0)
              · rw [if_pos hc2] at ht; cases ht
              · rw [if_neg hc2] at ht
                have hc0 := hb c (by simp)
                by_cases hs2 : c < 128
                · rw [if_pos hs2] at ht; cases ht; simp; omega
                · rw [if_neg hs2] at ht
                  cases ht2 : takeL r (i + 1 + 1) with
                  | none => rw [ht2] at ht; cases ht
                  | some z =>
                    rw [ht2] at ht
                    cases ht
                    simp only at h3 ⊢
                    by_cases hz : z.1 < 0
                    · omega
                    · have : 0 < z.1 ∨ c - 128 + 128 * z.1 ≠ 0 ∨ z.1 = 0 ∧ c = 128 := by omega
                      rcases this with g | g | ⟨g1, g2⟩
                      · omega
                      · omega
                      · exfalso
                        -- a last group of nought is none
                        have key : ∀ (r : List Int) (j : Nat) (z : Int × Nat), 0 < j → Bs r → takeL r j = some z → z.1 ≠ 0 := by
                          intro r
                          induction r with
                          | nil => intro j z _ _ h; cases h
                          | cons d r ihr =>
                            intro j z hj hbr h
                            have hd := hbr d (by simp)
                            simp only [takeL] at h
                            by_cases hcd : j > 9 ∨ (j = 9 ∧ d > 1) ∨ (j > 0 ∧ d = 0)
                            · rw [if_pos hcd] at h; cases h
                            · rw [if_neg hcd] at h
                              by_cases hsd : d < 128
                              · rw [if_pos hsd] at h; cases h; simp; omega
                              · rw [if_neg hsd] at h
                                cases hz : takeL r (j + 1) with
                                | none => rw [hz] at h; cases h
                                | some y =>
                                  rw [hz] at h
                                  cases h
                                  have := ihr (j + 1) y (by omega) (fun x hx => hbr x (List.mem_cons_of_mem _ hx)) hz
                                  simp only
                                  omega
                        exact key r (i + 1 + 1) z (by omega) (fun x hx => hb x (by simp [hx])) ht2 g1
          refine ⟨by simp, by simp; omega, by simp only; omega, ?_, ?_⟩
          · simp only
            have hi8 : i ≤ 8 := by
              by_cases h9 : i = 9
              · omega
              · omega
            have hM : (2 : Int) ^ (7 * i) * (128 * 2 ^ (57 - 7 * i)) = 18446744073709551616 := by
              have e1 : (128 : Int) = 2 ^ 7 := by decide
              rw [e1, ← Int.pow_add, ← Int.pow_add, show 7 * i + (7 + (57 - 7 * i)) = 64 by omega]
              decide
            have hM0 : (0 : Int) < 2 ^ (57 - 7 * i) := by
              have h1 : 0 < 2 ^ (57 - 7 * i) := Nat.two_pow_pos _
              have h2 : ((2 ^ (57 - 7 * i) : Nat) : Int) = (2 : Int) ^ (57 - 7 * i) := by simp
              omega
            generalize (2 : Int) ^ (7 * i) = P at *
            generalize (2 : Int) ^ (57 - 7 * i) = M at *
            have hqM : q.1 < M := by
              by_cases hc : q.1 < M
              · exact hc
              · have := Int.mul_le_mul_of_nonneg_right (show M ≤ q.1 by omega) (show (0 : Int) ≤ 128 * P by omega)
                have e2 : M * (128 * P) = P * (128 * M) := by rw [Int.mul_left_comm, Int.mul_comm M P, Int.mul_left_comm]
                omega
            have g1 := Int.mul_le_mul_of_nonneg_right (show b - 128 + 128 * q.1 ≤ 128 * M - 1 by omega) (show (0 : Int) ≤ P by omega)
            have g2 : (128 * M - 1) * P = P * (128 * M) - P := by rw [Int.sub_mul, Int.mul_comm (128 * M) P, Int.one_mul]
            omega
          · simp only [List.take_succ_cons]
            have e1 : (b - 128 + 128 * q.1).toNat / 128 = q.1.toNat := by omega
            have e2 : (((b - 128 + 128 * q.1).toNat % 128 + 128 : Nat) : Int) = b := by omega
            rw [putL_great (u := (b - 128 + 128 * q.1).toNat) (by omega), e1, e2, h5]

/-! ### numbers as bytes, the lowest first -/
def leL : Int → Nat → List Int
  | _, 0 => []
  | n, s + 1 => n % 256 :: leL (n / 256) s
def unleL : List Int → Int
  | [] => 0
  | b :: r => b + 256 * unleL r

theorem leL_len (n : Int) (s : Nat) : (leL n s).length = s := by
  induction s generalizing n with
  | zero => rfl
  | succ s ih => simp [leL, ih]
theorem leL_bs (n : Int) (s : Nat) : Bs (leL n s) := by
  induction s generalizing n with
  | zero => exact Bs.nil
  | succ s ih => exact (ih _).cons (by omega) (by omega)
theorem leL_snoc (n : Int) (s : Nat) : leL n (s + 1) = leL n s ++ [n / 256 ^ s % 256] := by
  induction s generalizing n with
  | zero => simp [leL]
  | succ s ih =>
    rw [leL, ih (n / 256), leL]
    simp only [List.cons_append, List.cons.injEq, true_and, List.append_cancel_left_eq, and_true]
    rw [Int.pow_succ', Int.ediv_ediv_of_nonneg (by decide)]
theorem pow256_pos (s : Nat) : (0 : Int) < 256 ^ s := by
  have h1 : 0 < 256 ^ s := Nat.pow_pos (by decide)
  have h2 : ((256 ^ s : Nat) : Int) = (256 : Int) ^ s := by simp
  omega
theorem unleL_leL (n : Int) (s : Nat) : unleL (leL n s) = n % 256 ^ s := by
  induction s generalizing n with
  | zero => simp [leL, unleL, Int.emod_one]
  | succ s ih =>
    simp only [leL, unleL, ih]
    have hp := pow256_pos s
    have h := Int.emod_emod_of_dvd
    rw [Int.pow_succ', Int.emod_def n (256 * 256 ^ s), Int.emod_def (n / 256) (256 ^ s), Int.ediv_ediv_of_nonneg (by decide), Int.mul_sub, ← Int.mul_assoc]
    have := Int.emod_add_mul_ediv n 256
    omega
theorem unleL_range (l : List Int) (h : Bs l) : 0 ≤ unleL l ∧ unleL l < 256 ^ l.length := by
  induction l with
  | nil => simp [unleL]
  | cons b r ih =>
    have hb := h b (by simp)
    obtain ⟨h1, h2⟩ := ih (fun x hx => h x (List.mem_cons_of_mem _ hx))
    simp only [unleL, List.length_cons, Int.pow_succ']
    omega
theorem leL_unleL (l : List Int) (h : Bs l) : leL (unleL l) l.length = l := by
  induction l with
  | nil => rfl
  | cons b r ih =>
    have hb := h b (by simp)
    simp only [unleL, List.length_cons, leL]
    rw [show (b + 256 * unleL r) % 256 = b by omega, show (b + 256 * unleL r) / 256 = unleL r by omega, ih (fun x hx => h x (List.mem_cons_of_mem _ hx))]
theorem leL_mod (n : Int) (s t : Nat) (h : s ≤ t) : leL (n % 256 ^ t) s = leL n s := by
  induction s generalizing n t with
  | zero => rfl
  | succ s ih =>
    cases t with
    | zero => omega
    | succ t =>
      have hp := pow256_pos t
      simp only [leL]
      have e1 : n % 256 ^ (t + 1) % 256 = n % 256 := by
        rw [Int.pow_succ']
        exact Int.emod_emod_of_dvd n (Int.dvd_mul_right _ _)
      have e2 : n % 256 ^ (t + 1) / 256 = n / 256 % 256 ^ t := by
        rw [Int.pow_succ']
        generalize (256 : Int) ^ t = P at *
        have h1 := Int.emod_add_mul_ediv (n / 256) P
        have h2 := Int.emod_nonneg (n / 256) (show P ≠ 0 by omega)
        have h3 := Int.emod_lt_of_pos (n / 256) hp
        have h4 : n = 256 * (n / 256 % P) + n % 256 + 256 * P * (n / 256 / P) := by rw [Int.mul_assoc]; omega
        have h5 : n % (256 * P) = 256 * (n / 256 % P) + n % 256 := by
          conv => lhs; rw [h4]
          rw [Int.add_mul_emod_self_left]
          exact Int.emod_eq_of_lt (by omega) (by omega)
        rw [h5]
        omega
      rw [e1, e2, ih _ _ (by omega)]
theorem leL_mod' (n : Int) (s : Nat) (h : s ≤ 8) : leL (n % 18446744073709551616) s = leL n s := by
  have e8 : (256 : Int) ^ 8 = 18446744073709551616 := by decide
  rw [← e8]
  exact leL_mod n s 8 h
theorem unleL_snoc (l : List Int) (b : Int) : unleL (l ++ [b]) = unleL l + b * 256 ^ l.length := by
  induction l with
  | nil => simp [unleL]
  | cons c r ih =>
    simp only [List.cons_append, unleL, ih, List.length_cons, Int.pow_succ', Int.mul_add]
    rw [Int.mul_left_comm b 256]
    omega

/-- Bytes joined by 'or' are a sum. -/
theorem or_join (u b : Int) (i : Nat) (hi : i ≤ 7) (hu : 0 ≤ u) (hu1 : u < 256 ^ i) (hb : 0 ≤ b) (hb1 : b < 256) :
    bits .or .i64 (wrap64 u) (wrap64 (b * 256 ^ i)) = wrap64 (u + b * 256 ^ i) := by
  have hp := pow256_pos i
  have hp7 : (256 : Int) ^ i ≤ 72057594037927936 := by
    have h1 : 256 ^ i ≤ 256 ^ 7 := Nat.pow_le_pow_right (by decide) hi
    have h2 : ((256 ^ i : Nat) : Int) = (256 : Int) ^ i := by simp
    have h3 : (256 : Nat) ^ 7 = 72057594037927936 := by decide
    rw [h3] at h1
    omega
  have hbp := Int.mul_le_mul_of_nonneg_right (show b ≤ 255 by omega) (show (0 : Int) ≤ 256 ^ i by omega)
  have hbp0 := Int.mul_nonneg hb (show (0 : Int) ≤ 256 ^ i by omega)
  obtain ⟨v, rfl⟩ := Int.eq_ofNat_of_zero_le hu
  obtain ⟨c, rfl⟩ := Int.eq_ofNat_of_zero_le hb
  have hwr : ∀ x : Int, 0 ≤ x → x < 18446744073709551616 → (BitVec.ofInt 64 (wrap64 x)).toNat = x.toNat := by
    intro x h0 h1
    have h := ofInt_toNat 64 (wrap64 x)
    have e : (2 : Int) ^ 64 = 18446744073709551616 := by decide
    rw [e] at h
    unfold wrap64 at *
    omega
  rw [bits_or_i64, hwr _ (by omega) (by omega), hwr _ hbp0 (by omega)]
  have e1 : ((c : Int) * 256 ^ i).toNat = 2 ^ (8 * i) * c := by
    have h2 : ((2 ^ (8 * i) * c : Nat) : Int) = (c : Int) * 256 ^ i := by
      rw [Nat.pow_mul]
      simp [Int.mul_comm]
    rw [← h2, Int.toNat_natCast]
  have h8 : (2 : Nat) ^ (8 * i) = 256 ^ i := by rw [Nat.pow_mul]
  have e2 : v < 2 ^ (8 * i) := by
    rw [h8]
    have h2 : ((256 ^ i : Nat) : Int) = (256 : Int) ^ i := by simp
    omega
  rw [e1, Int.toNat_natCast, Nat.or_comm, ← Nat.two_pow_add_eq_or_of_lt e2 c]
  congr 1
  have h2 : ((2 ^ (8 * i) * c : Nat) : Int) = (c : Int) * 256 ^ i := by
    rw [h8]
    simp [Int.mul_comm]
  omega

end Go.Proofs.YthmheblilgegcaaDoor.Seven
