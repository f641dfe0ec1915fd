/-
  What package ins answers, said by plain functions on lists of bytes (Size, Encode, Decode). Conditions: an instruction's fields are of 64 bits; a text of at most 2^47 - 4096 bytes.
-/
import Derived.Test.YthmheblilgegcaaDoorByt1
import Derived.Test.YthmheblilgegcaaDoorM2
import Derived.Test.YthmheblilgegcaaDoorM4
import Derived.Test.YthmheblilgegcaaDoorM5
namespace Go.Proofs.YthmheblilgegcaaDoor.Ins
open Go.RowKit Go.Proofs.YthmheblilgegcaaDoor.M Go.Proofs.YthmheblilgegcaaDoor.Num Go.Proofs.YthmheblilgegcaaDoor.Seven Go.Proofs.YthmheblilgegcaaDoor.Word1 Go.Proofs.YthmheblilgegcaaDoorW.PrintWords Go.Proofs.YthmheblilgegcaaDoorW.PrintLast

def shp (op : Int) : Int := if op < 0 then 0 else if op ≥ 34 then 0 else rd shapeTab op
def regs (s : Int) : Int := if s = 2 ∨ s = 3 then 2 else if s = 1 ∨ s = 4 ∨ s = 8 ∨ s = 9 then 1 else 0
def width (s : Int) : Int := if s = 1 then 8 else if s = 3 ∨ s = 4 ∨ s = 5 then 4 else if s = 7 ∨ s = 8 ∨ s = 10 then 1 else 0
def size (s : Int) : Int := if s = 0 then 0 else if regs s > 0 then 2 + width s else 1 + width s

theorem shp_range (op : Int) : 0 ≤ shp op ∧ shp op ≤ 10 := by
  unfold shp
  by_cases h0 : op < 0
  · rw [if_pos h0]; omega
  · rw [if_neg h0]
    by_cases h1 : op ≥ 34
    · rw [if_pos h1]; omega
    · rw [if_neg h1]
      have key : ∀ i : Fin 34, 0 ≤ rd shapeTab (i.val : Int) ∧ rd shapeTab (i.val : Int) ≤ 10 := by decide +kernel
      have h := key ⟨op.toNat, by omega⟩
      simp only at h
      rw [show ((op.toNat : Nat) : Int) = op by omega] at h
      exact h

theorem shp_pos {op : Int} (h : shp op ≠ 0) : 0 ≤ op ∧ op < 34 := by
  unfold shp at h
  by_cases h0 : op < 0
  · rw [if_pos h0] at h; omega
  · rw [if_neg h0] at h
    by_cases h1 : op ≥ 34
    · rw [if_pos h1] at h; omega
    · omega

theorem shapeOf_f (op : Int) : ins_shapeOf.f op = some (shp op) := by
  unfold ins_shapeOf.f shp
  by_cases h0 : op < 0
  · rw [if_pos h0, if_pos h0]
  · rw [if_neg h0, if_neg h0]
    by_cases h1 : op ≥ 34
    · rw [if_pos h1, if_pos h1]
    · rw [if_neg h1, if_neg h1]

theorem eleven {s : Int} (h0 : 0 ≤ s) (h1 : s ≤ 10) : s = 0 ∨ s = 1 ∨ s = 2 ∨ s = 3 ∨ s = 4 ∨ s = 5 ∨ s = 6 ∨ s = 7 ∨ s = 8 ∨ s = 9 ∨ s = 10 := by omega

theorem registers_f {s : Int} (h0 : 0 ≤ s) (h1 : s ≤ 10) (k : Nat) : ins_shape_registers.f (k + 1) s = some (regs s) := by
  rcases eleven h0 h1 with rfl | rfl | rfl | rfl | rfl | rfl | rfl | rfl | rfl | rfl | rfl <;> rfl
theorem width_f {s : Int} (h0 : 0 ≤ s) (h1 : s ≤ 10) (k : Nat) : ins_shape_width.f (k + 1) s = some (width s) := by
  rcases eleven h0 h1 with rfl | rfl | rfl | rfl | rfl | rfl | rfl | rfl | rfl | rfl | rfl <;> rfl
theorem size_f {s : Int} (h0 : 0 ≤ s) (h1 : s ≤ 10) (k : Nat) : ins_shape_size.f (k + 1) s = some (size s) := by
  unfold ins_shape_size.f
  rw [registers_f h0 h1, width_f h0 h1]
  rcases eleven h0 h1 with rfl | rfl | rfl | rfl | rfl | rfl | rfl | rfl | rfl | rfl | rfl <;> decide +kernel
theorem Size_f (op : Int) (k : Nat) : ins_Size.f (k + 1) op = some (size (shp op)) := by
  unfold ins_Size.f
  rw [shapeOf_f]
  simp only [Option.bind_some]
  rw [size_f (shp_range op).1 (shp_range op).2]
  rfl
theorem isReg_f (a : Int) : ins_isRegister.f a = some (decide (0 ≤ a ∧ a < 8)) := by
  unfold ins_isRegister.f
  by_cases h : a ≥ 0
  · rw [if_pos h]; congr 1; simp; omega
  · rw [if_neg h]; congr 1; simp; omega

/-- The fields are such as a form has. -/
def May (op a b n : Int) : Prop :=
  shp op ≠ 0 ∧ 0 ≤ a ∧ a < 8 ∧ 0 ≤ b ∧ b < 8 ∧ (regs (shp op) < 2 → b = 0) ∧ (regs (shp op) < 1 → a = 0) ∧ (width (shp op) = 0 → n = 0)
instance (op a b n : Int) : Decidable (May op a b n) := by unfold May; exact inferInstance
/-- The number fits. -/
def NFits (op n : Int) : Prop := ¬ (shp op = 10 ∧ n < 0) ∧ (width (shp op) > 0 → Fits n (width (shp op)))
instance (op n : Int) : Decidable (NFits op n) := by unfold NFits; exact inferInstance
def regL (s a b : Int) : List Int := if regs s = 1 then [a] else if regs s = 2 then [16 * a + b] else []
/-- An instruction's form. -/
def formL (op a b n : Int) : List Int := op :: (regL (shp op) a b ++ leL n (width (shp op)).toNat)
/-- What Encode answers. -/
def encR (op a b n : Int) : ByteArray × Int :=
  if May op a b n then if NFits op n then (strOfNums (formL op a b n), 0) else (⟨#[]⟩, 7) else (⟨#[]⟩, 1)

theorem regL_len (s a b : Int) : ((regL s a b).length : Int) = if regs s > 0 then 1 else 0 := by
  unfold regL regs
  by_cases h2 : s = 2 ∨ s = 3
  · simp [h2]
  · by_cases h1 : s = 1 ∨ s = 4 ∨ s = 8 ∨ s = 9
    · simp [h2, h1]
    · simp [h2, h1]
theorem width_nonneg (s : Int) : 0 ≤ width s ∧ width s ≤ 8 := by
  unfold width
  split
  · omega
  · split
    · omega
    · split <;> omega
theorem formL_len (op a b n : Int) (h : shp op ≠ 0) : ((formL op a b n).length : Int) = size (shp op) := by
  unfold formL size
  have h1 := regL_len (shp op) a b
  have hw := width_nonneg (shp op)
  rw [List.length_cons, List.length_append, leL_len, if_neg h]
  split at h1
  · rename_i hr; rw [if_pos hr]; omega
  · rename_i hr; rw [if_neg hr]; omega
theorem formL_bs {op a b n : Int} (h : May op a b n) : Bs (formL op a b n) := by
  obtain ⟨h0, ha0, ha1, hb0, hb1, _⟩ := h
  have hop := shp_pos h0
  unfold formL regL
  refine Bs.cons (by omega) (by omega) (Bs.append ?_ (leL_bs _ _))
  split
  · exact Bs.nil.cons (by omega) (by omega)
  · split
    · exact Bs.nil.cons (by omega) (by omega)
    · exact Bs.nil

theorem or16 {a b : Int} (ha0 : 0 ≤ a) (ha1 : a < 8) (hb0 : 0 ≤ b) (hb1 : b < 8) : bits .or .i64 (wrap64 (a * 16)) b % 256 = 16 * a + b := by
  have key : ∀ x y : Fin 8, bits .or .i64 (wrap64 ((x.val : Int) * 16)) (y.val : Int) % 256 = 16 * (x.val : Int) + (y.val : Int) := by decide +kernel
  have h := key ⟨a.toNat, by omega⟩ ⟨b.toNat, by omega⟩
  simp only at h
  rw [show ((a.toNat : Nat) : Int) = a by omega, show ((b.toNat : Nat) : Int) = b by omega] at h
  exact h

/-- The last part of Encode: the number. -/
theorem enc_j2 (k : Nat) (hk : 12 < k) (s n : Int) (x : List Int) (op a b : Int) (hs : shp op = s) (hn0 : -9223372036854775808 ≤ n) (hn1 : n < 9223372036854775808) (hx : x.length < 1000) :
    ins_Encode.j2 k s x false op a b n = some (if width s > 0 → Fits n (width s) then (strOfNums (x ++ leL n (width s).toNat), 0) else (⟨#[]⟩, 7)) := by
  obtain ⟨k, rfl⟩ : ∃ m, k = m + 2 := ⟨k - 2, by omega⟩
  have hr := shp_range op
  rw [hs] at hr
  have hw := width_nonneg s
  simp only [ins_Encode.j2]
  rw [width_f hr.1 hr.2]
  simp only [Option.bind_some, Bool.false_eq_true, if_false]
  by_cases hp : width s > 0
  · rw [if_pos hp, bytes_f n (width s) hn0 hn1 _ (by omega)]
    simp only [Option.bind_some]
    have hz : width s = 1 ∨ width s = 4 ∨ width s = 8 := by
      unfold width at hp ⊢
      split
      · omega
      · split
        · omega
        · split
          · omega
          · rename_i h1 h2 h3; simp [h1, h2, h3] at hp
    unfold bytesR
    rw [if_pos hz]
    by_cases hF : Fits n (width s)
    · rw [if_pos hF, if_pos (fun _ => hF)]
      simp only [if_true]
      rw [strOfNums_size, leL_len, if_pos (by omega), bytesOf_str (leL_bs _ _)]
    · have hno : ¬ (width s > 0 → Fits n (width s)) := fun h => hF (h hp)
      rw [if_neg hF, if_neg hno]
      simp
  · rw [if_neg hp, if_pos (fun h => absurd h hp), show (width s).toNat = 0 by omega]
    simp [leL]

theorem enc_j0 (k : Nat) (hk : 16 < k) (op a b n : Int) (hM : May op a b n) (hn0 : -9223372036854775808 ≤ n) (hn1 : n < 9223372036854775808) :
    ins_Encode.j0 k (shp op) (regs (shp op)) false op a b n = some (if NFits op n then (strOfNums (formL op a b n), 0) else (⟨#[]⟩, 7)) := by
  obtain ⟨k, rfl⟩ : ∃ m, k = m + 2 := ⟨k - 2, by omega⟩
  obtain ⟨h0, ha0, ha1, hb0, hb1, h2, h1, hw0⟩ := hM
  have hop := shp_pos h0
  have hj1 : ∀ x : List Int, x.length < 10 → ins_Encode.j1 (k + 1) (shp op) x op a b n = some (if NFits op n then (strOfNums (x ++ leL n (width (shp op)).toNat), 0) else (⟨#[]⟩, 7)) := by
    intro x hx
    simp only [ins_Encode.j1]
    by_cases ht : shp op = 10
    · rw [if_pos ht]
      by_cases hn : n < 0
      · have e : decide (n < 0) = true := decide_eq_true hn
        rw [e, if_neg (fun h : NFits op n => h.1 ⟨ht, hn⟩)]
        obtain ⟨k, rfl⟩ : ∃ m, k = m + 1 := ⟨k - 1, by omega⟩
        simp [ins_Encode.j2]
      · have e : decide (n < 0) = false := decide_eq_false hn
        rw [e, enc_j2 k (by omega) (shp op) n x op a b rfl hn0 hn1 (by omega)]
        by_cases hF : width (shp op) > 0 → Fits n (width (shp op))
        · rw [if_pos hF, if_pos ⟨fun h => hn h.2, hF⟩]
        · rw [if_neg hF, if_neg (fun h : NFits op n => hF h.2)]
    · rw [if_neg ht, enc_j2 k (by omega) (shp op) n x op a b rfl hn0 hn1 (by omega)]
      by_cases hF : width (shp op) > 0 → Fits n (width (shp op))
      · rw [if_pos hF, if_pos ⟨fun h => ht h.1, hF⟩]
      · rw [if_neg hF, if_neg (fun h : NFits op n => hF h.2)]
  simp only [ins_Encode.j0, Bool.false_eq_true, if_false, Option.bind_some]
  have e256 : op % 256 = op := by omega
  rw [e256]
  unfold formL regL
  by_cases hr1 : regs (shp op) = 1
  · rw [if_pos hr1, if_pos (by simp), hj1 _ (by simp), if_pos hr1, show a % 256 = a by omega]
    simp
  · rw [if_neg hr1, if_neg hr1]
    by_cases hr2 : regs (shp op) = 2
    · rw [if_pos hr2, if_pos (by simp), hj1 _ (by simp), if_pos hr2, or16 ha0 ha1 hb0 hb1]
      simp
    · rw [if_neg hr2, hj1 _ (by simp), if_neg hr2]
      simp

theorem enc_f (k : Nat) (hk : 17 < k) (op a b n : Int) (hn0 : -9223372036854775808 ≤ n) (hn1 : n < 9223372036854775808) : ins_Encode.f k op a b n = some (encR op a b n) := by
  obtain ⟨k, rfl⟩ : ∃ m, k = m + 1 := ⟨k - 1, by omega⟩
  have hr := shp_range op
  have hbad : ∀ c, ¬ May op a b n → c = true → ins_Encode.j0 (k + 1) (shp op) (regs (shp op)) c op a b n = some (encR op a b n) := by
    intro c hM hc
    subst hc
    unfold encR
    rw [if_neg hM]
    simp [ins_Encode.j0]
  have hgood : May op a b n → ins_Encode.j0 (k + 1) (shp op) (regs (shp op)) false op a b n = some (encR op a b n) := by
    intro hM
    rw [enc_j0 (k + 1) (by omega) op a b n hM hn0 hn1]
    unfold encR
    rw [if_pos hM]
  have hlast : (shp op ≠ 0 ∧ 0 ≤ a ∧ a < 8 ∧ 0 ≤ b ∧ b < 8 ∧ (regs (shp op) < 2 → b = 0) ∧ (regs (shp op) < 1 → a = 0)) →
      ((ins_shape_width.f (k + 1) (shp op)).bind fun t => if t = 0 then ins_Encode.j0 (k + 1) (shp op) (regs (shp op)) (n != 0) op a b n else ins_Encode.j0 (k + 1) (shp op) (regs (shp op)) false op a b n) = some (encR op a b n) := by
    intro ⟨q1, q2, q3, q4, q5, q6, q7⟩
    rw [width_f hr.1 hr.2]
    simp only [Option.bind_some]
    by_cases hw : width (shp op) = 0
    · rw [if_pos hw]
      by_cases hn : n = 0
      · have e : (n != 0) = false := by simpa using hn
        rw [e]
        exact hgood ⟨q1, q2, q3, q4, q5, q6, q7, fun _ => hn⟩
      · have e : (n != 0) = true := by simpa using hn
        exact hbad _ (fun h => hn (h.2.2.2.2.2.2.2 hw)) e
    · rw [if_neg hw]
      exact hgood ⟨q1, q2, q3, q4, q5, q6, q7, fun h => absurd h hw⟩
  unfold ins_Encode.f
  rw [shapeOf_f]
  simp only [Option.bind_some]
  rw [registers_f hr.1 hr.2]
  simp only [Option.bind_some]
  by_cases h0 : shp op = 0
  · rw [if_pos h0]
    exact hbad _ (fun h => h.1 h0) rfl
  rw [if_neg h0, isReg_f]
  simp only [Option.bind_some, decide_eq_true_eq]
  by_cases ha : 0 ≤ a ∧ a < 8
  · rw [if_pos ha, isReg_f]
    simp only [Option.bind_some, decide_eq_true_eq]
    by_cases hb : 0 ≤ b ∧ b < 8
    · rw [if_pos hb]
      by_cases hr2 : regs (shp op) < 2
      · rw [if_pos hr2]
        by_cases hb0 : b = 0
        · rw [if_pos hb0]
          by_cases hr1 : regs (shp op) < 1
          · rw [if_pos hr1]
            by_cases ha0 : a = 0
            · rw [if_pos ha0]
              exact hlast ⟨h0, ha.1, ha.2, hb.1, hb.2, fun _ => hb0, fun _ => ha0⟩
            · rw [if_neg ha0]
              exact hbad _ (fun h => ha0 (h.2.2.2.2.2.2.1 hr1)) rfl
          · rw [if_neg hr1]
            exact hlast ⟨h0, ha.1, ha.2, hb.1, hb.2, fun _ => hb0, fun h => absurd h hr1⟩
        · rw [if_neg hb0]
          exact hbad _ (fun h => hb0 (h.2.2.2.2.2.1 hr2)) rfl
      · rw [if_neg hr2]
        by_cases hr1 : regs (shp op) < 1
        · omega
        · rw [if_neg hr1]
          exact hlast ⟨h0, ha.1, ha.2, hb.1, hb.2, fun h => absurd h hr2, fun h => absurd h hr1⟩
    · rw [if_neg hb]
      exact hbad _ (fun h => hb ⟨h.2.2.2.1, h.2.2.2.2.1⟩) rfl
  · rw [if_neg ha]
    exact hbad _ (fun h => ha ⟨h.2.1, h.2.2.1⟩) rfl

end Go.Proofs.YthmheblilgegcaaDoor.Ins
