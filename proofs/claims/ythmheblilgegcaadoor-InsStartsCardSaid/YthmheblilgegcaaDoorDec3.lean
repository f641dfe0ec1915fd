/-
  What ins.Decode answers, said by a plain function on lists of bytes. Condition: a text of at most 2^47 - 4096 bytes.
-/
import Derived.Test.YthmheblilgegcaaDoorIns3
import Derived.Test.YthmheblilgegcaaDoorM6
namespace Go.Proofs.YthmheblilgegcaaDoor.Ins
open Go.RowKit Go.Proofs.YthmheblilgegcaaDoor.M Go.Proofs.YthmheblilgegcaaDoor.Num Go.Proofs.YthmheblilgegcaaDoor.Seven Go.Proofs.YthmheblilgegcaaDoor.Word1 Go.Proofs.YthmheblilgegcaaDoorW.PrintWords Go.Proofs.YthmheblilgegcaaDoorW.PrintLast

/-- A number out of some bytes. -/
def numV (l : List Int) : Int :=
  if l.length = 1 then (unleL l + 128) % 256 - 128
  else if l.length = 4 then (unleL l + 2147483648) % 4294967296 - 2147483648
  else if l.length = 8 then wrap64 (unleL l)
  else 0
theorem numR_V (s : ByteArray) : (numR s).1 = numV (bytesOf s) := by
  unfold numR numV
  rw [bytesOf_length]
  split
  · rfl
  · split
    · rfl
    · split <;> rfl
theorem bytesOf_extract (s : ByteArray) (i j : Nat) : bytesOf (s.extract i j) = ((bytesOf s).drop i).take (j - i) := by
  unfold bytesOf
  rw [ByteArray.data_extract, Array.toList_extract, List.extract_eq_take_drop, List.map_take, List.map_drop]

/-- The registers that stand in the byte behind the first one. -/
def regsOf (s c : Int) : Int × Int := if regs s = 1 then (c, 0) else if regs s = 2 then (c / 16, c % 16) else (0, 0)
/-- The number that stands behind the registers. -/
def numOf (s : Int) (l : List Int) : Int := if width s > 0 then numV ((l.drop (size s - width s).toNat).take (width s).toNat) else 0
/-- The instruction whose form some bytes begin with. -/
def decL : List Int → Option (Int × Int × Int × Int)
  | [] => none
  | op :: r =>
    if shp op = 0 ∨ ((op :: r).length : Int) < size (shp op) then none
    else if (regsOf (shp op) (r.getD 0 0)).1 < 8 ∧ (regsOf (shp op) (r.getD 0 0)).2 < 8 ∧ ¬ (shp op = 10 ∧ numOf (shp op) (op :: r) < 0) then
      some (op, (regsOf (shp op) (r.getD 0 0)).1, (regsOf (shp op) (r.getD 0 0)).2, numOf (shp op) (op :: r))
    else none

/-- What Decode answers. -/
def decR (s : ByteArray) (at_ : Int) : Int × Int × Int × Int × Int × Int :=
  if at_ < 0 ∨ at_ > s.size then (0, 0, 0, 0, 0, 1) else match decL ((bytesOf s).drop at_.toNat) with
  | none => (0, 0, 0, 0, 0, 9)
  | some (op, a, b, n) => (op, a, b, n, at_ + size (shp op), 0)

theorem and15 (b : Int) (h0 : 0 ≤ b) (h1 : b < 256) : bits .and .u8 b 15 = b % 16 := u8_and15 b h0 h1

theorem getD_next (s : ByteArray) (p : Nat) (h : p + 1 < s.size) : ((bytesOf s).drop (p + 1)).getD 0 0 = bt s (p + 1 : Nat) := by
  rw [bt_drop s (p + 1) h]
  rfl

theorem width_size {s : Int} (h : s ≠ 0) : 1 + width s ≤ size s ∧ size s ≤ 2 + width s ∧ (regs s > 0 → size s = 2 + width s) := by
  unfold size
  rw [if_neg h]
  split <;> omega

attribute [local irreducible] shp regs width size numV unleL bt bytesOf

theorem lo_eq {p : Nat} {sz w : Int} (hp : p ≤ 140737488351232) (h1 : w ≤ sz) (h2 : sz ≤ 100) (h0 : 0 ≤ w) : wrap64 ((p : Int) + sz - w) = ((p + (sz - w).toNat : Nat) : Int) := by
  rw [wrap64_id (by omega) (by omega)]
  omega
theorem dec_j3 (k : Nat) (s next op a b n : Int) (ha : 0 ≤ a) (hb : 0 ≤ b) :
    ins_Decode.j3 (k + 1) s next op a b n = some (if a < 8 ∧ b < 8 ∧ ¬ (s = 10 ∧ n < 0) then (op, a, b, n, next, 0) else (0, 0, 0, 0, 0, 9)) := by
  simp only [ins_Decode.j3]
  rw [isReg_f, isReg_f]
  simp only [Option.bind_some, decide_eq_true_eq]
  by_cases h1 : a < 8
  · rw [if_pos ⟨ha, h1⟩]
    by_cases h2 : b < 8
    · rw [if_pos ⟨hb, h2⟩]
      by_cases h3 : s = 10
      · rw [if_pos h3]
        by_cases h4 : n < 0
        · rw [if_pos h4, if_neg (fun h => h.2.2 ⟨h3, h4⟩)]
        · rw [if_neg h4, if_pos ⟨h1, h2, fun h => h4 h.2⟩]
      · rw [if_neg h3, if_pos ⟨h1, h2, fun h => h3 h.1⟩]
    · rw [if_neg (fun h => h2 h.2), if_neg (fun h => h2 h.2.1)]
  · rw [if_neg (fun h => h1 h.2), if_neg (fun h => h1 h.1)]

theorem dec_f (s : ByteArray) (at_ : Int) (hs : s.size ≤ 140737488351232) (k : Nat) (hk : 20 < k) : ins_Decode.f k s at_ = some (decR s at_) := by
  obtain ⟨k, rfl⟩ : ∃ m, k = m + 4 := ⟨k - 4, by omega⟩
  unfold ins_Decode.f decR
  by_cases h0 : at_ < 0
  · rw [if_pos h0, if_pos (.inl h0)]
    simp [ins_Decode.j0]
  rw [if_neg h0]
  by_cases h1 : at_ > (s.size : Int)
  · have e : decide (at_ > (s.size : Int)) = true := decide_eq_true h1
    rw [e, if_pos (.inr h1)]
    simp [ins_Decode.j0]
  have e : decide (at_ > (s.size : Int)) = false := decide_eq_false h1
  rw [e, if_neg (by omega)]
  obtain ⟨p, rfl⟩ := Int.eq_ofNat_of_zero_le (show 0 ≤ at_ by omega)
  rw [Int.toNat_natCast]
  simp only [ins_Decode.j0, Bool.false_eq_true, if_false]
  by_cases h2 : (p : Int) = (s.size : Int)
  · rw [if_pos h2, List.drop_eq_nil_of_le (by rw [bytesOf_length]; omega)]
    rfl
  have hlt : p < s.size := by omega
  rw [if_neg h2, if_pos (by omega), if_pos (by omega)]
  have hbr := bt_range s p
  have hw : wrap64 (bt s p) = bt s p := wrap64_id (by omega) (by omega)
  rw [hw, shapeOf_f, bt_drop s p hlt]
  simp only [Option.bind_some, decL]
  have hr := shp_range (bt s p)
  generalize hop : bt s p = op at *
  have hlen : ((op :: (bytesOf s).drop (p + 1)).length : Int) = (s.size : Int) - p := by
    rw [List.length_cons, List.length_drop, bytesOf_length]; omega
  rw [hlen]
  by_cases hz : shp op = 0
  · rw [if_pos hz, if_pos (.inl hz)]
    simp [ins_Decode.j1]
  rw [if_neg hz, size_f hr.1 hr.2]
  simp only [Option.bind_some]
  have hsz := width_size hz
  have hwn := width_nonneg (shp op)
  rw [wrap64_id (n := (s.size : Int) - p) (by omega) (by omega)]
  by_cases hl : (s.size : Int) - p < size (shp op)
  · have e1 : decide ((s.size : Int) - p < size (shp op)) = true := decide_eq_true hl
    rw [e1, if_pos (.inr hl)]
    simp [ins_Decode.j1]
  have e1 : decide ((s.size : Int) - p < size (shp op)) = false := decide_eq_false hl
  rw [e1, if_neg (by omega)]
  simp only [ins_Decode.j1, Bool.false_eq_true, if_false]
  rw [size_f hr.1 hr.2, registers_f hr.1 hr.2]
  simp only [Option.bind_some]
  have hnx : wrap64 ((p : Int) + size (shp op)) = p + size (shp op) := by
    exact wrap64_id (by omega) (by omega)
  have hp1 : wrap64 ((p : Int) + 1) = ((p + 1 : Nat) : Int) := by rw [wrap64_id (by omega) (by omega)]; omega
  rw [hnx, hp1]
  clear e e1 hlen hnx hp1 hw hbr
  -- the number, and the end, in one form
  have tail : ∀ a b : Int, 0 ≤ a → 0 ≤ b → ins_Decode.j2 (k + 2) s (shp op) (p + size (shp op)) op a b 0 =
      some (if a < 8 ∧ b < 8 ∧ ¬ (shp op = 10 ∧ numOf (shp op) (op :: (bytesOf s).drop (p + 1)) < 0) then (op, a, b, numOf (shp op) (op :: (bytesOf s).drop (p + 1)), (p : Int) + size (shp op), 0) else (0, 0, 0, 0, 0, 9)) := by
    intro a b ha hb
    simp only [ins_Decode.j2]
    rw [width_f hr.1 hr.2]
    simp only [Option.bind_some]
    unfold numOf
    by_cases hp : width (shp op) > 0
    · have hlo : wrap64 ((p : Int) + size (shp op) - width (shp op)) = ((p + (size (shp op) - width (shp op)).toNat : Nat) : Int) := lo_eq (by omega) (by omega) (by omega) (by omega)
      rw [if_pos hp, if_pos hp, hlo, if_pos (by omega), if_pos (by omega), if_pos (by omega), Int.toNat_natCast]
      have hsx : (s.extract (p + (size (shp op) - width (shp op)).toNat) ((p : Int) + size (shp op)).toNat).size = (width (shp op)).toNat := by
        rw [ByteArray.size_extract]
        omega
      have hbx := bytesOf_extract s (p + (size (shp op) - width (shp op)).toNat) ((p : Int) + size (shp op)).toNat
      generalize s.extract (p + (size (shp op) - width (shp op)).toNat) ((p : Int) + size (shp op)).toNat = X at hsx hbx ⊢
      have hx1 : X.size ≤ 8 := by omega
      clear hsx
      have hnum : word_Number.f (k + 1) X = some (numR X) := number_f X (Nat.le_trans hx1 (by decide)) (k + 1) (by omega)
      rw [hnum]
      simp only [Option.bind_some]
      rw [dec_j3 _ _ _ _ _ _ _ ha hb, numR_V, hbx]
      have e3 : ((bytesOf s).drop (p + (size (shp op) - width (shp op)).toNat)).take (((p : Int) + size (shp op)).toNat - (p + (size (shp op) - width (shp op)).toNat)) =
          ((op :: (bytesOf s).drop (p + 1)).drop (size (shp op) - width (shp op)).toNat).take (width (shp op)).toNat := by
        rw [show op :: (bytesOf s).drop (p + 1) = (bytesOf s).drop p by rw [bt_drop s p hlt, hop], List.drop_drop]
        congr 1
        omega
      rw [e3]
    · rw [if_neg hp, if_neg hp, dec_j3 _ _ _ _ _ _ _ ha hb]
  have hn1 : regs (shp op) > 0 → p + 1 < s.size := by
    intro h
    have := hsz.2.2 h
    omega
  have fin : ∀ q : Int × Int, 0 ≤ q.1 → 0 ≤ q.2 → regsOf (shp op) (((bytesOf s).drop (p + 1)).getD 0 0) = q → ins_Decode.j2 (k + 2) s (shp op) (p + size (shp op)) op q.1 q.2 0 =
      some (match (if (regsOf (shp op) (((bytesOf s).drop (p + 1)).getD 0 0)).1 < 8 ∧ (regsOf (shp op) (((bytesOf s).drop (p + 1)).getD 0 0)).2 < 8 ∧ ¬ (shp op = 10 ∧ numOf (shp op) (op :: (bytesOf s).drop (p + 1)) < 0) then
          some (op, (regsOf (shp op) (((bytesOf s).drop (p + 1)).getD 0 0)).1, (regsOf (shp op) (((bytesOf s).drop (p + 1)).getD 0 0)).2, numOf (shp op) (op :: (bytesOf s).drop (p + 1))) else none : Option (Int × Int × Int × Int)) with
        | none => (0, 0, 0, 0, 0, 9)
        | some (op, a, b, n) => (op, a, b, n, (p : Int) + size (shp op), 0)) := by
    intro q h1 h2 hq
    rw [hq, tail q.1 q.2 h1 h2]
    split
    · rfl
    · rfl
  by_cases hr1 : regs (shp op) = 1
  · have hb2 := bt_range s (p + 1 : Nat)
    rw [if_pos hr1, if_pos (by omega), if_pos (by have := hn1 (by omega); omega), wrap64_id (n := bt s (p + 1 : Nat)) (by omega) (by omega)]
    exact fin (bt s (p + 1 : Nat), 0) (by simp only; omega) (by simp) (by unfold regsOf; rw [if_pos hr1, getD_next s p (hn1 (by omega))])
  · rw [if_neg hr1]
    by_cases hr2 : regs (shp op) = 2
    · have hb2 := bt_range s (p + 1 : Nat)
      rw [if_pos hr2, if_pos (by omega), if_pos (by have := hn1 (by omega); omega), and15 _ (by omega) (by omega), wrap64_id (n := bt s (p + 1 : Nat) / 16) (by omega) (by omega), wrap64_id (n := bt s (p + 1 : Nat) % 16) (by omega) (by omega)]
      exact fin (bt s (p + 1 : Nat) / 16, bt s (p + 1 : Nat) % 16) (by simp only; omega) (by simp only; omega) (by unfold regsOf; rw [if_neg hr1, if_pos hr2, getD_next s p (hn1 (by omega))])
    · rw [if_neg hr2]
      exact fin (0, 0) (by simp) (by simp) (by unfold regsOf; rw [if_neg hr1, if_neg hr2])

end Go.Proofs.YthmheblilgegcaaDoor.Ins
